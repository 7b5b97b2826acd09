/- Layer 8: the walk of the reference's Encode. -/
import Derived.Test.YtcmgdieeclninaaD37
set_option linter.unusedVariables false
set_option linter.unusedSimpArgs false
namespace Go.Proofs.Ytcmgdieeclninaa
open Go.RowKit Go.Proofs.YtcmgdieeclninaaW.PrintWords
/-- What a call tells of a walk, the row's value a letter. -/
def BW (w0 w : World) (v0 : Value) (xs : List Int) (L : List (Nat × Array Value × TypeId)) (e : Ending) (w' : World) : Prop := ∃ v, e = .returned v ∧ BJ w0 w w' v0 v xs L
theorem BW.of {w0 w : World} {v0 : Value} {xs : List Int} {L : List (Nat × Array Value × TypeId)} {e : Ending} {w' : World} (h : BWalk w0 w v0 xs L e w') : BW w0 w v0 xs L e w' := by
  obtain ⟨V, c, he, hJ⟩ := h
  exact ⟨_, he, hJ⟩
set_option maxRecDepth 100000 in
set_option maxHeartbeats 16000000 in
theorem encodeRef_any (c : Cat) (A1 : Option Addr) (c1 : Nat) (A2 : Option Addr) (c2 : Nat) (w : World)
    (hC1 : kTab.C w A1 c.tables.length c.tables) (hC2 : kPrc.C w A2 c.procs.length c.procs) (hbd : BdCat c) :
    Calls Try.prog 28 #[.agg #[.slice A1 c.tables.length c1, .slice A2 c.procs.length c2]] w fun e w' => e = .returned (.tuple #[.string (encO c).1, .int .i64 (encO c).2]) ∧ Below w.heap.size w w' := by
  have HC1 := Aside0.mk hC1
  have HC2 := Aside0.mk hC2
  clear hC1 hC2
  have hJ0 := (PJ.nil w).alloc (Obj.cells #[.slice A1 c.tables.length c1, .slice A2 c.procs.length c2] 25)
  obtain ⟨W, hW⟩ : ∃ W, W = w.alloc (Obj.cells #[.slice A1 c.tables.length c1, .slice A2 c.procs.length c2] 25) := ⟨_, rfl⟩
  rw [← hW] at hJ0
  have HJ0 := Aside0.mk hJ0
  have HW := Aside0.mk hW.symm
  clear hJ0 hW
  have f0 : W.cell? ⟨w.heap.size, 0, none⟩ = some (.slice A1 c.tables.length c1) := blk_cell HJ0.out.hd 0
  have f1 : W.cell? ⟨w.heap.size, 1, none⟩ = some (.slice A2 c.procs.length c2) := blk_cell HJ0.out.hd 1
  go_enter Try.func28, Try.ntmps28
  go_wp2_with fail
  rw [HW.out]
  go_wp2_with fail
  refine (rightRef_any c A1 c1 A2 c2 W (Kd.C_below HC1.out HJ0.out.1) (Kd.C_below HC2.out HJ0.out.1) hbd).mono ?_
  rintro e u1 ⟨rfl, hb1⟩
  have HJ1 := Aside0.mk (HJ0.out.below hb1)
  clear hb1 f0 f1 HJ0 hbd
  by_cases hR : RightCat c
  · rw [decide_eq_true hR]
    have HR := Lib.hid hR
    have hlen := wCat_len hR
    have hl1 : (wN c.tables.length).length + (c.tables.flatMap wTab).length + ((wN c.procs.length).length + (c.procs.flatMap wPrc).length) ≤ 200000 := by
      have h := hlen
      unfold wCat at h
      simpa only [List.length_append] using h
    have HLEN := Lib.hid hl1
    have hn8 := hR.1
    have hn16 := hR.2.1
    have HRES := Lib.hid (show encO c = (strOfNums (wCat c), 0) from if_pos hR)
    clear hR hlen hl1
    have HS0 : Aside0 (BJ w u1 u1 (.slice none 0 0) (.slice none 0 0) [] [(w.heap.size, #[.slice A1 c.tables.length c1, .slice A2 c.procs.length c2], 25)]) := ⟨⟨own_nil _ _ _ _, BG.refl _ _, HJ1.out.1, fun p hp => by
      rw [List.mem_singleton] at hp
      subst hp
      exact ⟨HJ1.out.hd, by show (25 : Nat) ≠ 5; decide⟩⟩⟩
    clear HJ1
    have r0 : u1.cell? ⟨w.heap.size, 0, none⟩ = some (.slice A1 c.tables.length c1) := blk_cell HS0.out.hd 0
    go_wp2_with fail
    refine ((HS0.out.number c.tables.length (by omega) (by first | (rw [Int.toNat_natCast]; simp only [List.length_append, List.length_nil]; have := HLEN.out; omega) | (simp only [List.length_append, List.length_nil, wF_len]; have := HLEN.out; omega))).mono (fun _ _ h => BW.of h)).mono ?_
    rintro e y1 ⟨v1, rfl, hS1⟩
    rw [Int.toNat_natCast] at hS1
    have HS1 := Aside0.mk hS1
    clear hS1 r0 HS0
    rw [List.nil_append] at HS1
    go_wp2_with fail
    go_loopg [5, 6] c.tables.length (fun gn u i wr => ∃ (vr : Value) (kk : Nat), vr = u ∧ i = .int .i64 kk ∧ Aside0 (kk + gn = c.tables.length) ∧ Aside0 (BJ w u1 wr (.slice none 0 0) vr (wN c.tables.length ++ (c.tables.take kk).flatMap wTab) [(w.heap.size, #[.slice A1 c.tables.length c1, .slice A2 c.procs.length c2], 25)]))
    case atStart => exact ⟨_, 0, rfl, rfl, ⟨by omega⟩, by simpa using HS1⟩
    case round =>
      obtain ⟨vr, k, rfl, rfl, ⟨hgn⟩, hLk⟩ := hrel
      have HGNk := Lib.hid hgn
      clear hgn HS1
      have f0 : wr.cell? ⟨w.heap.size, 0, none⟩ = some (.slice A1 c.tables.length c1) := blk_cell hLk.out.hd 0
      by_cases hk : k < c.tables.length
      · skip
        obtain ⟨ad, x, B1, d1, B2, d2, B3, d3, rfl, hx, hmem0, hts0, q0, q1, q2, q3, q4, hc1, hc2, hc3⟩ := tab_at HC1.out hLk.out.bel k hk
        have HMX := Lib.hid (HR.out.2.2.1 x hmem0)
        have hst := flat_step_le wTab _ _ _ hts0
        have hwc : (wTab x).length = (wT x.name).length + ((wN x.cols.length).length + (x.cols.flatMap wC).length + ((wL x.key).length + ((wN x.part.toNat).length + ((wN x.idx.length).length + (x.idx.flatMap wI).length)))) := by unfold wTab; simp only [List.length_append]
        have HST := Lib.hid (hwc ▸ hst)
        have HTSk := Lib.hid hts0
        have HX1 := Aside0.mk hc1.2
        have HX2 := Aside0.mk hc2.2
        have HX3 := Aside0.mk hc3.2
        have hn16b := HMX.out.2.2.1
        have hn4 := HMX.out.2.2.2.1
        have hnm := HMX.out.1.2.1
        have hk8 := HMX.out.2.2.2.2.2.2.1.2.1
        have HKK := Lib.hid HMX.out.2.2.2.2.2.2.1.2.2.1
        have hp0 := HKK.out x.part HMX.out.2.2.2.2.2.2.2.2.1
        clear hx hmem0 hts0 hst hwc hc1 hc2 hc3
        have p0 : (0 : Int) ≤ k := by omega
        have p1 : (k : Int) < c.tables.length := by omega
        have hJa := hLk.out.alloc #[.string x.name, .slice B1 x.cols.length d1, .slice B2 x.key.length d2, .int .i64 x.part, .slice B3 x.idx.length d3] 30 (by decide)
        have g0 : (wr.alloc (Obj.cells #[.string x.name, .slice B1 x.cols.length d1, .slice B2 x.key.length d2, .int .i64 x.part, .slice B3 x.idx.length d3] 30)).cell? ⟨wr.heap.size, 0, none⟩ = some (.string x.name) := blk_cell hJa.hd 0
        have HJa := Aside0.mk hJa
        clear hJa
        go_wp2_with fail
        obtain ⟨wa, hwa⟩ : ∃ u, u = wr.alloc (Obj.cells #[.string x.name, .slice B1 x.cols.length d1, .slice B2 x.key.length d2, .int .i64 x.part, .slice B3 x.idx.length d3] 30) := ⟨_, rfl⟩
        obtain ⟨b7, hb7⟩ : ∃ b, b = wr.heap.size := ⟨_, rfl⟩
        change Calls Try.prog 60 _ (wr.alloc (Obj.cells #[.string x.name, .slice B1 x.cols.length d1, .slice B2 x.key.length d2, .int .i64 x.part, .slice B3 x.idx.length d3] 30)) _
        have HJb : Aside0 (BJ w u1 wa (.slice none 0 0) vr (wN c.tables.length ++ (c.tables.take k).flatMap wTab) [(b7, #[.string x.name, .slice B1 x.cols.length d1, .slice B2 x.key.length d2, .int .i64 x.part, .slice B3 x.idx.length d3], 30), (w.heap.size, #[.slice (some ad) c.tables.length c1, .slice A2 c.procs.length c2], 25)]) := by rw [hwa, hb7]; exact HJa
        rw [← hwa, ← hb7]
        clear HJa hwa hb7 f0 g0 q0 q1 q2 q3 q4 hLk
        refine ((HJb.out.text x.name (by omega) (by simp only [List.length_append, List.length_nil, wF_len]; have := HLEN.out; have := HST.out; omega)).mono (fun _ _ h => BW.of h)).mono ?_
        rintro e y2 ⟨v2, rfl, hS2⟩
        have HS2 := Aside0.mk hS2
        clear hS2 HJb
        have r0 : y2.cell? ⟨b7, 1, none⟩ = some (.slice B1 x.cols.length d1) := blk_cell HS2.out.hd 1
        go_wp2_with fail
        refine ((HS2.out.number x.cols.length (by omega) (by first | (rw [Int.toNat_natCast]; simp only [List.length_append, List.length_nil]; have := HLEN.out; have := HST.out; omega) | (simp only [List.length_append, List.length_nil, wF_len]; have := HLEN.out; have := HST.out; omega))).mono (fun _ _ h => BW.of h)).mono ?_
        rintro e y3 ⟨v3, rfl, hS3⟩
        rw [Int.toNat_natCast] at hS3
        have HS3 := Aside0.mk hS3
        clear hS3 r0 HS2
        go_wp2_with fail
        go_loopg [5, 8] x.cols.length (fun gn u i wr => ∃ (vr : Value) (kk : Nat), vr = u ∧ i = .int .i64 kk ∧ Aside0 (kk + gn = x.cols.length) ∧ Aside0 (BJ w u1 wr (.slice none 0 0) vr (wN c.tables.length ++ (c.tables.take k).flatMap wTab ++ wT x.name ++ wN x.cols.length ++ (x.cols.take kk).flatMap wC) [(b7, #[.string x.name, .slice B1 x.cols.length d1, .slice B2 x.key.length d2, .int .i64 x.part, .slice B3 x.idx.length d3], 30), (w.heap.size, #[.slice (some ad) c.tables.length c1, .slice A2 c.procs.length c2], 25)]))
        case atStart => exact ⟨_, 0, rfl, rfl, ⟨by omega⟩, by simpa using HS3⟩
        case round =>
          obtain ⟨vr, k2, rfl, rfl, ⟨hgn⟩, hLk2⟩ := hrel
          have HGNk2 := Lib.hid hgn
          clear hgn HS3
          have f1 : wr.cell? ⟨b7, 1, none⟩ = some (.slice B1 x.cols.length d1) := blk_cell hLk2.out.hd 1
          by_cases hk2 : k2 < x.cols.length
          · skip
            obtain ⟨ad2, z, rfl, hz, hzm, hzt, q0, q1, q2⟩ := col_at HX1.out (Below.refl _ _) k2 hk2
            have hst := flat_step_le wC _ _ _ hzt
            have hwc : (wC z).length = (wT z.name).length + ((wN z.type.toNat).length + 1) := by unfold wC; simp only [List.length_append, wF_len]
            have HST2 := Lib.hid (hwc ▸ hst)
            have HTSk2 := Lib.hid hzt
            have Q0 := Aside0.mk q0
            have Q1 := Aside0.mk q1
            have Q2 := Aside0.mk q2
            have hzn : z.name.size ≤ 16 := (HMX.out.2.2.2.2.1.1 _ (List.mem_map_of_mem (f := (·.name)) hzm)).2.1
            have hzty := HMX.out.2.2.2.2.2.1 z hzm
            unfold TypeOk at hzty
            clear hz hzm hzt hst hwc q0 q1 q2 f1
            have p2 : (0 : Int) ≤ k2 := by omega
            have p3 : (k2 : Int) < x.cols.length := by omega
            have r0 : wr.cell? ⟨b7, 1, none⟩ = some (.slice (some ad2) x.cols.length d1) := blk_cell hLk2.out.hd 1
            have r1 : wr.cell? (ad2.add (k2 * 3)) = some (.string z.name) := pw_cell_below hLk2.out.bel Q0.out
            go_wp2_with fail
            refine ((hLk2.out.text z.name (by omega) (by simp only [List.length_append, List.length_nil, wF_len]; have := HLEN.out; have := HST.out; have := HST2.out; omega)).mono (fun _ _ h => BW.of h)).mono ?_
            rintro e y4 ⟨v4, rfl, hS4⟩
            have HS4 := Aside0.mk hS4
            clear hS4 r0 r1 hLk2
            have r0 : y4.cell? ⟨b7, 1, none⟩ = some (.slice (some ad2) x.cols.length d1) := blk_cell HS4.out.hd 1
            have r1 : y4.cell? { block := (ad2.add (k2 * 3)).block, off := (ad2.add (k2 * 3)).off + 1 } = some (.int .i64 z.type) := pw_cell_below HS4.out.bel Q1.out
            go_wp2_with fail
            refine ((HS4.out.number z.type (by omega) (by simp only [List.length_append, List.length_nil, wF_len]; have := HLEN.out; have := HST.out; have := HST2.out; omega)).mono (fun _ _ h => BW.of h)).mono ?_
            rintro e y5 ⟨v5, rfl, hS5⟩
            have HS5 := Aside0.mk hS5
            clear hS5 r0 r1 HS4
            have r0 : y5.cell? ⟨b7, 1, none⟩ = some (.slice (some ad2) x.cols.length d1) := blk_cell HS5.out.hd 1
            have r1 : y5.cell? { block := (ad2.add (k2 * 3)).block, off := (ad2.add (k2 * 3)).off + 2 } = some (.bool z.notNull) := pw_cell_below HS5.out.bel Q2.out
            go_wp2_with fail
            refine ((HS5.out.flag z.notNull (by simp only [List.length_append, List.length_nil, wF_len]; have := HLEN.out; have := HST.out; have := HST2.out; omega)).mono (fun _ _ h => BW.of h)).mono ?_
            rintro e y6 ⟨v6, rfl, hS6⟩
            have HS6 := Aside0.mk hS6
            clear hS6 r0 r1 HS5
            go_wp2_with fail
            go_roundg (x.cols.length - (k2 + 1))
            case measure => have := HGNk2.out; omega
            case rel => exact ⟨_, k2 + 1, rfl, by go_num, ⟨by have := HGNk2.out; omega⟩, by
              rw [HTSk2.out, List.flatMap_append]
              simpa [wC, List.append_assoc] using HS6⟩
          · skip
            have hxs : x.cols.take k2 = x.cols := List.take_of_length_le (by omega)
            rw [hxs] at hLk2
            clear hxs
            have r0 : wr.cell? ⟨b7, 2, none⟩ = some (.slice B2 x.key.length d2) := blk_cell hLk2.out.hd 2
            go_wp2_with fail
            refine ((hLk2.out.numbers B2 d2 x.key HX2.out (fun n hn => by have := HKK.out n hn; omega) (by omega) (by simp only [List.length_append, List.length_nil, wF_len]; have := HLEN.out; have := HST.out; omega)).mono (fun _ _ h => BW.of h)).mono ?_
            rintro e y7 ⟨v7, rfl, hS7⟩
            have HS7 := Aside0.mk hS7
            clear hS7 r0 hLk2
            clear f1
            have r0 : y7.cell? ⟨b7, 3, none⟩ = some (.int .i64 x.part) := blk_cell HS7.out.hd 3
            go_wp2_with fail
            refine ((HS7.out.number x.part (by omega) (by simp only [List.length_append, List.length_nil, wF_len]; have := HLEN.out; have := HST.out; omega)).mono (fun _ _ h => BW.of h)).mono ?_
            rintro e y8 ⟨v8, rfl, hS8⟩
            have HS8 := Aside0.mk hS8
            clear hS8 r0 HS7
            have r0 : y8.cell? ⟨b7, 4, none⟩ = some (.slice B3 x.idx.length d3) := blk_cell HS8.out.hd 4
            go_wp2_with fail
            refine ((HS8.out.number x.idx.length (by omega) (by first | (rw [Int.toNat_natCast]; simp only [List.length_append, List.length_nil]; have := HLEN.out; have := HST.out; omega) | (simp only [List.length_append, List.length_nil, wF_len]; have := HLEN.out; have := HST.out; omega))).mono (fun _ _ h => BW.of h)).mono ?_
            rintro e y9 ⟨v9, rfl, hS9⟩
            rw [Int.toNat_natCast] at hS9
            have HS9 := Aside0.mk hS9
            clear hS9 r0 HS8
            go_wp2_with fail
            go_loopg [5, 9] x.idx.length (fun gn u i wr => ∃ (vr : Value) (kk : Nat), vr = u ∧ i = .int .i64 kk ∧ Aside0 (kk + gn = x.idx.length) ∧ Aside0 (BJ w u1 wr (.slice none 0 0) vr (wN c.tables.length ++ (c.tables.take k).flatMap wTab ++ wT x.name ++ wN x.cols.length ++ x.cols.flatMap wC ++ wL x.key ++ wN x.part.toNat ++ wN x.idx.length ++ (x.idx.take kk).flatMap wI) [(b7, #[.string x.name, .slice B1 x.cols.length d1, .slice B2 x.key.length d2, .int .i64 x.part, .slice B3 x.idx.length d3], 30), (w.heap.size, #[.slice (some ad) c.tables.length c1, .slice A2 c.procs.length c2], 25)]))
            case atStart => exact ⟨_, 0, rfl, rfl, ⟨by omega⟩, by simpa using HS9⟩
            case round =>
              obtain ⟨vr, k3, rfl, rfl, ⟨hgn⟩, hLk3⟩ := hrel
              have HGNk3 := Lib.hid hgn
              clear hgn HS9
              have f1 : wr.cell? ⟨b7, 4, none⟩ = some (.slice B3 x.idx.length d3) := blk_cell hLk3.out.hd 4
              by_cases hk3 : k3 < x.idx.length
              · skip
                obtain ⟨ad2, z, Z1, z1, rfl, hz, hzm, hzt, q0, q1, q2, hlz, hCz⟩ := idx_at HX3.out (Below.refl _ _) k3 hk3
                have hst := flat_step_le wI _ _ _ hzt
                have hwc : (wI z).length = (wT z.name).length + (1 + (wL z.columns).length) := by unfold wI; simp only [List.length_append, wF_len]
                have HST2 := Lib.hid (hwc ▸ hst)
                have HTSk3 := Lib.hid hzt
                have Q0 := Aside0.mk q0
                have Q1 := Aside0.mk q1
                have Q2 := Aside0.mk q2
                have HCZ := Aside0.mk hCz
                have hzn : z.name.size ≤ 16 := (HMX.out.2.2.2.2.2.2.2.2.2.2.1 _ (List.mem_map_of_mem (f := (·.name)) hzm)).2.1
                have hz8 := (HMX.out.2.2.2.2.2.2.2.2.2.1 z hzm).2.1
                have HZK := Lib.hid (HMX.out.2.2.2.2.2.2.2.2.2.1 z hzm).2.2.1
                clear hz hzm hzt hst hwc q0 q1 q2 hCz f1
                have p2 : (0 : Int) ≤ k3 := by omega
                have p3 : (k3 : Int) < x.idx.length := by omega
                have r0 : wr.cell? ⟨b7, 4, none⟩ = some (.slice (some ad2) x.idx.length d3) := blk_cell hLk3.out.hd 4
                have r1 : wr.cell? (ad2.add (k3 * 3)) = some (.string z.name) := pw_cell_below hLk3.out.bel Q0.out
                go_wp2_with fail
                refine ((hLk3.out.text z.name (by omega) (by simp only [List.length_append, List.length_nil, wF_len]; have := HLEN.out; have := HST.out; have := HST2.out; omega)).mono (fun _ _ h => BW.of h)).mono ?_
                rintro e y10 ⟨v10, rfl, hS10⟩
                have HS10 := Aside0.mk hS10
                clear hS10 r0 r1 hLk3
                have r0 : y10.cell? ⟨b7, 4, none⟩ = some (.slice (some ad2) x.idx.length d3) := blk_cell HS10.out.hd 4
                have r1 : y10.cell? { block := (ad2.add (k3 * 3)).block, off := (ad2.add (k3 * 3)).off + 2 } = some (.bool z.unique) := pw_cell_below HS10.out.bel Q2.out
                go_wp2_with fail
                refine ((HS10.out.flag z.unique (by simp only [List.length_append, List.length_nil, wF_len]; have := HLEN.out; have := HST.out; have := HST2.out; omega)).mono (fun _ _ h => BW.of h)).mono ?_
                rintro e y11 ⟨v11, rfl, hS11⟩
                have HS11 := Aside0.mk hS11
                clear hS11 r0 r1 HS10
                have r0 : y11.cell? ⟨b7, 4, none⟩ = some (.slice (some ad2) x.idx.length d3) := blk_cell HS11.out.hd 4
                have r1 : y11.cell? { block := (ad2.add (k3 * 3)).block, off := (ad2.add (k3 * 3)).off + 1 } = some (.slice Z1 z.columns.length z1) := pw_cell_below HS11.out.bel Q1.out
                go_wp2_with fail
                refine ((HS11.out.numbers Z1 z1 z.columns HCZ.out (fun n hn => by have := HZK.out n hn; omega) (by omega) (by simp only [List.length_append, List.length_nil, wF_len]; have := HLEN.out; have := HST.out; have := HST2.out; omega)).mono (fun _ _ h => BW.of h)).mono ?_
                rintro e y12 ⟨v12, rfl, hS12⟩
                have HS12 := Aside0.mk hS12
                clear hS12 r0 r1 HS11
                go_wp2_with fail
                go_roundg (x.idx.length - (k3 + 1))
                case measure => have := HGNk3.out; omega
                case rel => exact ⟨_, k3 + 1, rfl, by go_num, ⟨by have := HGNk3.out; omega⟩, by
                  rw [HTSk3.out, List.flatMap_append]
                  simpa [wI, List.append_assoc] using HS12⟩
              · skip
                have hxs : x.idx.take k3 = x.idx := List.take_of_length_le (by omega)
                rw [hxs] at hLk3
                clear hxs
                have HD := Aside0.mk hLk3.out.drop
                go_wp2_with fail
                go_roundg (c.tables.length - (k + 1))
                case measure => have := HGNk.out; omega
                case rel => exact ⟨_, k + 1, rfl, by go_num, ⟨by have := HGNk.out; omega⟩, by
                  rw [HTSk.out, List.flatMap_append]
                  simpa [wTab, List.append_assoc] using HD⟩
      · skip
        have hxs : c.tables.take k = c.tables := List.take_of_length_le (by omega)
        rw [hxs] at hLk
        clear hxs
        have r0 : wr.cell? ⟨w.heap.size, 1, none⟩ = some (.slice A2 c.procs.length c2) := blk_cell hLk.out.hd 1
        go_wp2_with fail
        refine ((hLk.out.number c.procs.length (by omega) (by first | (rw [Int.toNat_natCast]; simp only [List.length_append, List.length_nil]; have := HLEN.out; omega) | (simp only [List.length_append, List.length_nil, wF_len]; have := HLEN.out; omega))).mono (fun _ _ h => BW.of h)).mono ?_
        rintro e y13 ⟨v13, rfl, hS13⟩
        rw [Int.toNat_natCast] at hS13
        have HS13 := Aside0.mk hS13
        clear hS13 r0 hLk
        go_wp2_with fail
        clear f0
        go_loopg [5, 10] c.procs.length (fun gn u i wr => ∃ (vr : Value) (kk : Nat), vr = u ∧ i = .int .i64 kk ∧ Aside0 (kk + gn = c.procs.length) ∧ Aside0 (BJ w u1 wr (.slice none 0 0) vr (wN c.tables.length ++ c.tables.flatMap wTab ++ wN c.procs.length ++ (c.procs.take kk).flatMap wPrc) [(w.heap.size, #[.slice A1 c.tables.length c1, .slice A2 c.procs.length c2], 25)]))
        case atStart => exact ⟨_, 0, rfl, rfl, ⟨by omega⟩, by simpa using HS13⟩
        case round =>
          obtain ⟨vr, k, rfl, rfl, ⟨hgn⟩, hLk⟩ := hrel
          have HGNk := Lib.hid hgn
          clear hgn HS13
          have f0 : wr.cell? ⟨w.heap.size, 1, none⟩ = some (.slice A2 c.procs.length c2) := blk_cell hLk.out.hd 1
          by_cases hk : k < c.procs.length
          · skip
            obtain ⟨ad, x, B1, d1, B2, d2, rfl, hx, hmem0, hts0, q0, q1, q2, q3, q4, hc1, hc2⟩ := prc_at HC2.out hLk.out.bel k hk
            have HMX := Lib.hid (HR.out.2.2.2.1 x hmem0)
            have hst := flat_step_le wPrc _ _ _ hts0
            have hwc : (wPrc x).length = (wT x.name).length + ((wN x.params.length).length + (x.params.flatMap wP).length + ((wN x.body.length).length + (x.body.flatMap wT).length + ((wN x.rows.toNat).length + (wN x.bytes.toNat).length))) := by unfold wPrc; simp only [List.length_append]
            have HST := Lib.hid (hwc ▸ hst)
            have HTSk := Lib.hid hts0
            have HX1 := Aside0.mk hc1.2
            have HX2 := Aside0.mk hc2.2
            have hn8b := HMX.out.2.2.2.1
            have hb8 := HMX.out.2.2.2.2.2.1
            have hnm := HMX.out.1.2.1
            have hr0 := HMX.out.2.1
            have hb0 := HMX.out.2.2.1
            clear hx hmem0 hts0 hst hwc hc1 hc2
            have p0 : (0 : Int) ≤ k := by omega
            have p1 : (k : Int) < c.procs.length := by omega
            have hJa := hLk.out.alloc #[.string x.name, .slice B1 x.params.length d1, .slice B2 x.body.length d2, .int .i64 x.rows, .int .i64 x.bytes] 34 (by decide)
            have g0 : (wr.alloc (Obj.cells #[.string x.name, .slice B1 x.params.length d1, .slice B2 x.body.length d2, .int .i64 x.rows, .int .i64 x.bytes] 34)).cell? ⟨wr.heap.size, 0, none⟩ = some (.string x.name) := blk_cell hJa.hd 0
            have HJa := Aside0.mk hJa
            clear hJa
            go_wp2_with fail
            obtain ⟨wa, hwa⟩ : ∃ u, u = wr.alloc (Obj.cells #[.string x.name, .slice B1 x.params.length d1, .slice B2 x.body.length d2, .int .i64 x.rows, .int .i64 x.bytes] 34) := ⟨_, rfl⟩
            obtain ⟨b7, hb7⟩ : ∃ b, b = wr.heap.size := ⟨_, rfl⟩
            change Calls Try.prog 60 _ (wr.alloc (Obj.cells #[.string x.name, .slice B1 x.params.length d1, .slice B2 x.body.length d2, .int .i64 x.rows, .int .i64 x.bytes] 34)) _
            have HJb : Aside0 (BJ w u1 wa (.slice none 0 0) vr (wN c.tables.length ++ c.tables.flatMap wTab ++ wN c.procs.length ++ (c.procs.take k).flatMap wPrc) [(b7, #[.string x.name, .slice B1 x.params.length d1, .slice B2 x.body.length d2, .int .i64 x.rows, .int .i64 x.bytes], 34), (w.heap.size, #[.slice A1 c.tables.length c1, .slice (some ad) c.procs.length c2], 25)]) := by rw [hwa, hb7]; exact HJa
            rw [← hwa, ← hb7]
            clear HJa hwa hb7 f0 g0 q0 q1 q2 q3 q4 hLk
            refine ((HJb.out.text x.name (by omega) (by simp only [List.length_append, List.length_nil, wF_len]; have := HLEN.out; have := HST.out; omega)).mono (fun _ _ h => BW.of h)).mono ?_
            rintro e y14 ⟨v14, rfl, hS14⟩
            have HS14 := Aside0.mk hS14
            clear hS14 HJb
            have r0 : y14.cell? ⟨b7, 1, none⟩ = some (.slice B1 x.params.length d1) := blk_cell HS14.out.hd 1
            go_wp2_with fail
            refine ((HS14.out.number x.params.length (by omega) (by first | (rw [Int.toNat_natCast]; simp only [List.length_append, List.length_nil]; have := HLEN.out; have := HST.out; omega) | (simp only [List.length_append, List.length_nil, wF_len]; have := HLEN.out; have := HST.out; omega))).mono (fun _ _ h => BW.of h)).mono ?_
            rintro e y15 ⟨v15, rfl, hS15⟩
            rw [Int.toNat_natCast] at hS15
            have HS15 := Aside0.mk hS15
            clear hS15 r0 HS14
            go_wp2_with fail
            go_loopg [5, 12] x.params.length (fun gn u i wr => ∃ (vr : Value) (kk : Nat), vr = u ∧ i = .int .i64 kk ∧ Aside0 (kk + gn = x.params.length) ∧ Aside0 (BJ w u1 wr (.slice none 0 0) vr (wN c.tables.length ++ c.tables.flatMap wTab ++ wN c.procs.length ++ (c.procs.take k).flatMap wPrc ++ wT x.name ++ wN x.params.length ++ (x.params.take kk).flatMap wP) [(b7, #[.string x.name, .slice B1 x.params.length d1, .slice B2 x.body.length d2, .int .i64 x.rows, .int .i64 x.bytes], 34), (w.heap.size, #[.slice A1 c.tables.length c1, .slice (some ad) c.procs.length c2], 25)]))
            case atStart => exact ⟨_, 0, rfl, rfl, ⟨by omega⟩, by simpa using HS15⟩
            case round =>
              obtain ⟨vr, k2, rfl, rfl, ⟨hgn⟩, hLk2⟩ := hrel
              have HGNk2 := Lib.hid hgn
              clear hgn HS15
              have f1 : wr.cell? ⟨b7, 1, none⟩ = some (.slice B1 x.params.length d1) := blk_cell hLk2.out.hd 1
              by_cases hk2 : k2 < x.params.length
              · skip
                obtain ⟨ad2, z, rfl, hz, hzm, hzt, q0, q1⟩ := prm_at HX1.out (Below.refl _ _) k2 hk2
                have hst := flat_step_le wP _ _ _ hzt
                have hwc : (wP z).length = (wT z.name).length + (wN z.type.toNat).length := by unfold wP; simp only [List.length_append]
                have HST2 := Lib.hid (hwc ▸ hst)
                have HTSk2 := Lib.hid hzt
                have Q0 := Aside0.mk q0
                have Q1 := Aside0.mk q1
                have hzn : z.name.size ≤ 16 := (HMX.out.2.2.2.2.2.2.1.1 _ (List.mem_map_of_mem (f := (·.name)) hzm)).2.1
                have hzty := HMX.out.2.2.2.2.2.2.2.1 z hzm
                unfold TypeOk at hzty
                clear hz hzm hzt hst hwc q0 q1 f1
                have p2 : (0 : Int) ≤ k2 := by omega
                have p3 : (k2 : Int) < x.params.length := by omega
                have r0 : wr.cell? ⟨b7, 1, none⟩ = some (.slice (some ad2) x.params.length d1) := blk_cell hLk2.out.hd 1
                have r1 : wr.cell? (ad2.add (k2 * 2)) = some (.string z.name) := pw_cell_below hLk2.out.bel Q0.out
                go_wp2_with fail
                refine ((hLk2.out.text z.name (by omega) (by simp only [List.length_append, List.length_nil, wF_len]; have := HLEN.out; have := HST.out; have := HST2.out; omega)).mono (fun _ _ h => BW.of h)).mono ?_
                rintro e y16 ⟨v16, rfl, hS16⟩
                have HS16 := Aside0.mk hS16
                clear hS16 r0 r1 hLk2
                have r0 : y16.cell? ⟨b7, 1, none⟩ = some (.slice (some ad2) x.params.length d1) := blk_cell HS16.out.hd 1
                have r1 : y16.cell? { block := (ad2.add (k2 * 2)).block, off := (ad2.add (k2 * 2)).off + 1 } = some (.int .i64 z.type) := pw_cell_below HS16.out.bel Q1.out
                go_wp2_with fail
                refine ((HS16.out.number z.type (by omega) (by simp only [List.length_append, List.length_nil, wF_len]; have := HLEN.out; have := HST.out; have := HST2.out; omega)).mono (fun _ _ h => BW.of h)).mono ?_
                rintro e y17 ⟨v17, rfl, hS17⟩
                have HS17 := Aside0.mk hS17
                clear hS17 r0 r1 HS16
                go_wp2_with fail
                go_roundg (x.params.length - (k2 + 1))
                case measure => have := HGNk2.out; omega
                case rel => exact ⟨_, k2 + 1, rfl, by go_num, ⟨by have := HGNk2.out; omega⟩, by
                  rw [HTSk2.out, List.flatMap_append]
                  simpa [wP, List.append_assoc] using HS17⟩
              · skip
                have hxs : x.params.take k2 = x.params := List.take_of_length_le (by omega)
                rw [hxs] at hLk2
                clear hxs
                have r0 : wr.cell? ⟨b7, 2, none⟩ = some (.slice B2 x.body.length d2) := blk_cell hLk2.out.hd 2
                go_wp2_with fail
                refine ((hLk2.out.number x.body.length (by omega) (by first | (rw [Int.toNat_natCast]; simp only [List.length_append, List.length_nil]; have := HLEN.out; have := HST.out; omega) | (simp only [List.length_append, List.length_nil, wF_len]; have := HLEN.out; have := HST.out; omega))).mono (fun _ _ h => BW.of h)).mono ?_
                rintro e y18 ⟨v18, rfl, hS18⟩
                rw [Int.toNat_natCast] at hS18
                have HS18 := Aside0.mk hS18
                clear hS18 r0 hLk2
                go_wp2_with fail
                clear f1
                go_loopg [5, 13] x.body.length (fun gn u i wr => ∃ (vr : Value) (kk : Nat), vr = u ∧ i = .int .i64 kk ∧ Aside0 (kk + gn = x.body.length) ∧ Aside0 (BJ w u1 wr (.slice none 0 0) vr (wN c.tables.length ++ c.tables.flatMap wTab ++ wN c.procs.length ++ (c.procs.take k).flatMap wPrc ++ wT x.name ++ wN x.params.length ++ x.params.flatMap wP ++ wN x.body.length ++ (x.body.take kk).flatMap wT) [(b7, #[.string x.name, .slice B1 x.params.length d1, .slice B2 x.body.length d2, .int .i64 x.rows, .int .i64 x.bytes], 34), (w.heap.size, #[.slice A1 c.tables.length c1, .slice (some ad) c.procs.length c2], 25)]))
                case atStart => exact ⟨_, 0, rfl, rfl, ⟨by omega⟩, by simpa using HS18⟩
                case round =>
                  obtain ⟨vr, k3, rfl, rfl, ⟨hgn⟩, hLk3⟩ := hrel
                  have HGNk3 := Lib.hid hgn
                  clear hgn HS18
                  have f1 : wr.cell? ⟨b7, 2, none⟩ = some (.slice B2 x.body.length d2) := blk_cell hLk3.out.hd 2
                  by_cases hk3 : k3 < x.body.length
                  · skip
                    obtain ⟨ad2, z, rfl, hz, hzm, hzt, q0⟩ := str_el HX2.out (Below.refl _ _) k3 hk3
                    have HST2 := Lib.hid (flat_step_le wT _ _ _ hzt)
                    have HTSk3 := Lib.hid hzt
                    have Q0 := Aside0.mk q0
                    have hzn := (HMX.out.2.2.2.2.2.2.2.2 z hzm).2
                    clear hz hzm hzt q0 f1
                    have p2 : (0 : Int) ≤ k3 := by omega
                    have p3 : (k3 : Int) < x.body.length := by omega
                    have r0 : wr.cell? ⟨b7, 2, none⟩ = some (.slice (some ad2) x.body.length d2) := blk_cell hLk3.out.hd 2
                    have r1 : wr.cell? (ad2.add k3) = some (.string z) := pw_cell_below hLk3.out.bel Q0.out
                    go_wp2_with fail
                    refine ((hLk3.out.text z (by omega) (by simp only [List.length_append, List.length_nil, wF_len]; have := HLEN.out; have := HST.out; have := HST2.out; omega)).mono (fun _ _ h => BW.of h)).mono ?_
                    rintro e y19 ⟨v19, rfl, hS19⟩
                    have HS19 := Aside0.mk hS19
                    clear hS19 r0 r1 hLk3
                    go_wp2_with fail
                    go_roundg (x.body.length - (k3 + 1))
                    case measure => have := HGNk3.out; omega
                    case rel => exact ⟨_, k3 + 1, rfl, by go_num, ⟨by have := HGNk3.out; omega⟩, by
                      rw [HTSk3.out, List.flatMap_append]
                      simpa [List.append_assoc] using HS19⟩
                  · skip
                    have hxs : x.body.take k3 = x.body := List.take_of_length_le (by omega)
                    rw [hxs] at hLk3
                    clear hxs
                    have r0 : wr.cell? ⟨b7, 3, none⟩ = some (.int .i64 x.rows) := blk_cell hLk3.out.hd 3
                    go_wp2_with fail
                    refine ((hLk3.out.number x.rows (by omega) (by simp only [List.length_append, List.length_nil, wF_len]; have := HLEN.out; have := HST.out; omega)).mono (fun _ _ h => BW.of h)).mono ?_
                    rintro e y20 ⟨v20, rfl, hS20⟩
                    have HS20 := Aside0.mk hS20
                    clear hS20 r0 hLk3
                    clear f1
                    have r0 : y20.cell? ⟨b7, 4, none⟩ = some (.int .i64 x.bytes) := blk_cell HS20.out.hd 4
                    go_wp2_with fail
                    refine ((HS20.out.number x.bytes (by omega) (by simp only [List.length_append, List.length_nil, wF_len]; have := HLEN.out; have := HST.out; omega)).mono (fun _ _ h => BW.of h)).mono ?_
                    rintro e y21 ⟨v21, rfl, hS21⟩
                    have HS21 := Aside0.mk hS21
                    clear hS21 r0 HS20
                    have HD := Aside0.mk HS21.out.drop
                    go_wp2_with fail
                    go_roundg (c.procs.length - (k + 1))
                    case measure => have := HGNk.out; omega
                    case rel => exact ⟨_, k + 1, rfl, by go_num, ⟨by have := HGNk.out; omega⟩, by
                      rw [HTSk.out, List.flatMap_append]
                      simpa [wPrc, List.append_assoc] using HD⟩
          · skip
            have hxs : c.procs.take k = c.procs := List.take_of_length_le (by omega)
            rw [hxs] at hLk
            have hcat : wN c.tables.length ++ c.tables.flatMap wTab ++ wN c.procs.length ++ c.procs.flatMap wPrc = wCat c := by simp [wCat, List.append_assoc]
            rw [hcat] at hLk
            have hconv := own_string (P := Try.prog) (src := 74) (dst := 9) Try.underlying74 Try.underlying5 Try.underlying9 hLk.out.own
            clear hxs
            go_wp2_with fail
            go_ret2
            exact ⟨by rw [HRES.out]; rfl, hLk.out.bel⟩
  · rw [decide_eq_false hR]
    have HRES := Lib.hid (show encO c = (⟨#[]⟩, 80) from if_neg hR)
    clear hR
    go_wp2_with fail
    go_ret2
    exact ⟨by rw [HRES.out]; rfl, HJ1.out.1⟩
end Go.Proofs.Ytcmgdieeclninaa
