/- Layer 8: how long the bytes are; the walk of Encode. -/
import Derived.Test.YtcmgdieeclninaaD35
set_option linter.unusedVariables false
set_option linter.unusedSimpArgs false
namespace Go.Proofs.Ytcmgdieeclninaa
open Go.RowKit Go.Proofs.YtcmgdieeclninaaW.PrintWords
theorem flat_len {α : Type} (f : α → List Int) (B : Nat) : ∀ l : List α, (∀ x ∈ l, (f x).length ≤ B) → (l.flatMap f).length ≤ l.length * B
  | [], _ => by simp
  | a :: l, h => by
    have h1 := flat_len f B l (fun x hx => h x (List.mem_cons_of_mem _ hx))
    have h2 := h a List.mem_cons_self
    simp only [List.flatMap_cons, List.length_append, List.length_cons, Nat.add_mul, Nat.one_mul]
    omega
theorem wN_len3 {n : Nat} (h : n < 2097152) : (wN n).length ≤ 3 := wN_len (k := 2) (by omega)
theorem wT_len {s : ByteArray} (h : s.size < 2097152) : (wT s).length ≤ 3 + s.size := by
  unfold wT
  rw [List.length_append, bytesOf_length]
  have := wN_len3 h
  omega
theorem wL_len {l : List Int} (h8 : l.length ≤ 8) (h : ∀ n ∈ l, n < 2097152) : (wL l).length ≤ 27 := by
  unfold wL
  rw [List.length_append]
  have h1 := wN_len3 (show l.length < 2097152 by omega)
  have h2 := flat_len (fun n : Int => wN n.toNat) 3 l (fun n hn => wN_len3 (by have := h n hn; omega))
  omega
theorem wTab_len {t : Tab} (h : MayTab t) : (wTab t).length ≤ 700 := by
  have hn := wT_len (s := t.name) (by have := h.1.2.1; omega)
  have hn2 := h.1.2.1
  have h16 := h.2.2.1
  have h4 := h.2.2.2.1
  have hK := h.2.2.2.2.2.2.1
  have h1 := wN_len3 (show t.cols.length < 2097152 by omega)
  have h2 := flat_len wC 23 t.cols (fun c hc => by
    have ha := (h.2.2.2.2.1.1 _ (List.mem_map_of_mem (f := (·.name)) hc)).2.1
    have hb := h.2.2.2.2.2.1 c hc
    unfold TypeOk at hb
    have hc1 := wT_len (s := c.name) (by omega)
    have hc2 := wN_len3 (show c.type.toNat < 2097152 by omega)
    unfold wC
    rw [List.length_append, List.length_append, wF_len]
    omega)
  have h3 := wL_len hK.2.1 (fun n hn => by have := (hK.2.2.1 n hn).2; omega)
  have h5 := hK.2.2.1 t.part h.2.2.2.2.2.2.2.2.1
  have h6 := wN_len3 (show t.part.toNat < 2097152 by omega)
  have h7 := wN_len3 (show t.idx.length < 2097152 by omega)
  have h8 := flat_len wI 50 t.idx (fun x hx => by
    have ha := (h.2.2.2.2.2.2.2.2.2.2.1 _ (List.mem_map_of_mem (f := (·.name)) hx)).2.1
    have hb := h.2.2.2.2.2.2.2.2.2.1 x hx
    have hc1 := wT_len (s := x.name) (by omega)
    have hc2 := wL_len hb.2.1 (fun n hn => by have := (hb.2.2.1 n hn).2; omega)
    unfold wI
    rw [List.length_append, List.length_append, wF_len]
    omega)
  unfold wTab
  simp only [List.length_append]
  have := Nat.mul_le_mul_right 23 h16
  have := Nat.mul_le_mul_right 50 h4
  omega
theorem wPrc_len {p : Prc} (h : MayPrc p) : (wPrc p).length ≤ 9000 := by
  have hn2 := h.1.2.1
  have hn := wT_len (s := p.name) (by omega)
  have h8 := h.2.2.2.1
  have hb8 := h.2.2.2.2.2.1
  have h1 := wN_len3 (show p.params.length < 2097152 by omega)
  have h2 := flat_len wP 22 p.params (fun c hc => by
    have ha := (h.2.2.2.2.2.2.1.1 _ (List.mem_map_of_mem (f := (·.name)) hc)).2.1
    have hb := h.2.2.2.2.2.2.2.1 c hc
    unfold TypeOk at hb
    have hc1 := wT_len (s := c.name) (by omega)
    have hc2 := wN_len3 (show c.type.toNat < 2097152 by omega)
    unfold wP
    rw [List.length_append]
    omega)
  have h3 := wN_len3 (show p.body.length < 2097152 by omega)
  have h4 := flat_len wT 1003 p.body (fun s hs => by
    have ha := (h.2.2.2.2.2.2.2.2 s hs).2
    have := wT_len (s := s) (by omega)
    omega)
  have h5 := wN_len3 (show p.rows.toNat < 2097152 by have := h.2.1.2; omega)
  have h6 := wN_len3 (show p.bytes.toNat < 2097152 by have := h.2.2.1.2; omega)
  unfold wPrc
  simp only [List.length_append]
  have := Nat.mul_le_mul_right 22 h8
  have := Nat.mul_le_mul_right 1003 hb8
  omega
theorem wCat_len {c : Cat} (h : RightCat c) : (wCat c).length ≤ 200000 := by
  have h1 := wN_len3 (show c.tables.length < 2097152 by have := h.1; omega)
  have h2 := flat_len wTab 700 c.tables (fun t ht => wTab_len (h.2.2.1 t ht))
  have h3 := wN_len3 (show c.procs.length < 2097152 by have := h.2.1; omega)
  have h4 := flat_len wPrc 9000 c.procs (fun t ht => wPrc_len (h.2.2.2.1 t ht))
  unfold wCat
  simp only [List.length_append]
  have := Nat.mul_le_mul_right 700 h.1
  have := Nat.mul_le_mul_right 9000 h.2.1
  omega
/-- C4. -/
def encO (c : Cat) : ByteArray × Int := if RightCat c then (strOfNums (wCat c), 0) else (⟨#[]⟩, 80)
set_option maxRecDepth 100000 in
set_option maxHeartbeats 8000000 in
theorem encode_any (c : Cat) (A1 : Option Addr) (c1 : Nat) (A2 : Option Addr) (c2 : Nat) (w : World)
    (hC1 : kTab.C w A1 c.tables.length c.tables) (hC2 : kPrc.C w A2 c.procs.length c.procs) :
    Calls Try.prog 23 #[.agg #[.slice A1 c.tables.length c1, .slice A2 c.procs.length c2]] w fun e w' => e = .returned (.tuple #[.string (encO c).1, .int .i64 (encO c).2]) ∧ Below w.heap.size w w' := by
  have HC1 := Aside0.mk hC1
  have HC2 := Aside0.mk hC2
  clear hC1 hC2
  have hJ0 := (PJ.nil w).alloc (Obj.cells #[.slice A1 c.tables.length c1, .slice A2 c.procs.length c2] 25)
  obtain ⟨W, hW⟩ : ∃ W, W = w.alloc (Obj.cells #[.slice A1 c.tables.length c1, .slice A2 c.procs.length c2] 25) := ⟨_, rfl⟩
  rw [← hW] at hJ0
  have HJ0 := Aside0.mk hJ0
  have HW := Aside0.mk hW.symm
  clear hJ0 hW
  have f0 : W.cell? ⟨w.heap.size, 0, none⟩ = some (.slice A1 c.tables.length c1) := blk_cell HJ0.out.hd 0
  have f1 : W.cell? ⟨w.heap.size, 1, none⟩ = some (.slice A2 c.procs.length c2) := blk_cell HJ0.out.hd 1
  go_enter Try.func23, Try.ntmps23
  go_wp2_with fail
  rw [HW.out]
  go_wp2_with fail
  refine (right_any c A1 c1 A2 c2 W (Kd.C_below HC1.out HJ0.out.1) (Kd.C_below HC2.out HJ0.out.1)).mono ?_
  rintro e u1 ⟨rfl, hb1⟩
  have HJ1 := Aside0.mk (HJ0.out.below hb1)
  clear hb1 f0 f1 HJ0
  by_cases hR : RightCat c
  · rw [decide_eq_true hR]
    have HR := Lib.hid hR
    have hlen := wCat_len hR
    have hl1 : (wN c.tables.length).length + (c.tables.flatMap wTab).length + ((wN c.procs.length).length + (c.procs.flatMap wPrc).length) ≤ 200000 := by
      have h := hlen
      unfold wCat at h
      simpa only [List.length_append] using h
    have HLEN := Lib.hid hl1
    have hn8 := hR.1
    have hn16 := hR.2.1
    have hres : encO c = (strOfNums (wCat c), 0) := if_pos hR
    have HRES := Lib.hid hres
    clear hR hlen hl1 hres
    obtain ⟨wq, hwq⟩ : ∃ u, u = (u1.alloc (Obj.cells #[] 5)).alloc (Obj.cells #[.slice (some ⟨u1.heap.size, 0, none⟩) 0 0] 75) := ⟨_, rfl⟩
    have hsz : (u1.alloc (Obj.cells #[] 5)).heap.size = u1.heap.size + 1 := by simp
    have hJ2 : WJ w wq wq (u1.heap.size + 1) (.slice (some ⟨u1.heap.size, 0, none⟩) 0 0) (.slice (some ⟨u1.heap.size, 0, none⟩) 0 0) [] [(w.heap.size, #[.slice A1 c.tables.length c1, .slice A2 c.procs.length c2], 25)] := by
      have hb1 := below_then HJ1.out.1 HJ1.out.1.size (below_alloc (below_alloc (Below.refl u1.heap.size u1) (Obj.cells #[] 5)) (Obj.cells #[.slice (some ⟨u1.heap.size, 0, none⟩) 0 0] 75))
      rw [← hwq] at hb1
      have hblk := blk_alloc (u1.alloc (Obj.cells #[] 5)) (Obj.cells #[.slice (some ⟨u1.heap.size, 0, none⟩) 0 0] 75)
      rw [← hwq, hsz] at hblk
      refine ⟨⟨hblk, ?_⟩, WG.refl _ _ _, hb1, by have := HJ1.out.1.size; omega, fun p hp => ?_⟩
      · have h := pw_own_below (lit0 u1 w.heap.size 5 1 HJ1.out.1.size) (below_alloc (Below.refl _ _) (Obj.cells #[.slice (some ⟨u1.heap.size, 0, none⟩) 0 0] 75))
        rw [← hwq] at h
        exact h
      · rw [List.mem_singleton] at hp
        subst hp
        refine ⟨?_, by show (25 : Nat) ≠ 5; decide, by show (25 : Nat) ≠ 75; decide⟩
        rw [hwq]
        exact blk_alloc' (blk_alloc' HJ1.out.hd)
    have f0 : wq.cell? ⟨w.heap.size, 0, none⟩ = some (.slice A1 c.tables.length c1) := blk_cell hJ2.hd 0
    have f1 : wq.cell? ⟨w.heap.size, 1, none⟩ = some (.slice A2 c.procs.length c2) := blk_cell hJ2.hd 1
    rw [hwq] at f0
    have hszq : wq.heap.size = u1.heap.size + 1 + 1 := by rw [hwq]; simp
    have HJ2 := Aside0.mk hJ2
    have HWQ := Aside0.mk hwq.symm
    have HSZ := Lib.hid hszq
    clear hJ2 hwq hsz HJ1 hszq
    go_wp2_with fail
    rw [HWQ.out, ← HSZ.out]
    refine (HJ2.out.lit c.tables.length (by omega) (by rw [Int.toNat_natCast]; simp only [List.length_nil]; have := HLEN.out; omega)).mono ?_
    rintro e u2 ⟨rfl, v2, hJ3⟩
    rw [Int.toNat_natCast, List.nil_append] at hJ3
    obtain ⟨wb, hwb⟩ : ∃ b, b = u1.heap.size + 1 := ⟨_, rfl⟩
    obtain ⟨v0, hv0⟩ : ∃ v : Value, v = .slice (some ⟨u1.heap.size, 0, none⟩) 0 0 := ⟨_, rfl⟩
    rw [← hwb, ← hv0] at hJ3
    rw [← hwb, HSZ.out, ← hwb]
    have HJ3 := Aside0.mk hJ3
    clear hJ3 HJ2 f0 f1 hwb hv0 HWQ
    have f0 : u2.cell? ⟨w.heap.size, 0, none⟩ = some (.slice A1 c.tables.length c1) := blk_cell HJ3.out.hd 0
    go_wp2_with fail
    clear f0
    go_loopg [23] c.tables.length (fun gn i wr => ∃ (k : Nat) (vr : Value), i = .int .i64 k ∧ Aside0 (k + gn = c.tables.length) ∧ Aside0 (WJ w wq wr wb v0 vr (wN c.tables.length ++ (c.tables.take k).flatMap wTab) [(w.heap.size, #[.slice A1 c.tables.length c1, .slice A2 c.procs.length c2], 25)]))
    case atStart => exact ⟨0, v2, rfl, ⟨by omega⟩, by simpa using HJ3⟩
    case round =>
      obtain ⟨k, vr, rfl, ⟨hgn⟩, hJ⟩ := hrel
      have HGN := Lib.hid hgn
      clear hgn HJ3
      by_cases hk : k < c.tables.length
      · obtain ⟨ad, x, X1, d1, X2, d2, X3, d3, rfl, hx, hmem0, hts0, q0, q1, q2, q3, q4, hc1, hc2, hc3⟩ := tab_at HC1.out hJ.out.bel k hk
        have HST := Lib.hid (flat_step_le wTab _ _ _ hts0)
        have HTS := Lib.hid hts0
        have HX1 := Aside0.mk hc1.2
        have HX2 := Aside0.mk hc2.2
        have HX3 := Aside0.mk hc3.2
        have HMX := Lib.hid (HR.out.2.2.1 x hmem0)
        clear hx hmem0 hts0 hc1 hc2 hc3
        have p0 : (0 : Int) ≤ k := by omega
        have p1 : (k : Int) < c.tables.length := by omega
        have hJa := hJ.out.alloc #[.string x.name, .slice X1 x.cols.length d1, .slice X2 x.key.length d2, .int .i64 x.part, .slice X3 x.idx.length d3] 30 (by decide) (by decide)
        have g0 : (wr.alloc (Obj.cells #[.string x.name, .slice X1 x.cols.length d1, .slice X2 x.key.length d2, .int .i64 x.part, .slice X3 x.idx.length d3] 30)).cell? ⟨wr.heap.size, 0, none⟩ = some (.string x.name) := blk_cell hJa.hd 0
        have g1 : (wr.alloc (Obj.cells #[.string x.name, .slice X1 x.cols.length d1, .slice X2 x.key.length d2, .int .i64 x.part, .slice X3 x.idx.length d3] 30)).cell? ⟨wr.heap.size, 1, none⟩ = some (.slice X1 x.cols.length d1) := blk_cell hJa.hd 1
        have g2 : (wr.alloc (Obj.cells #[.string x.name, .slice X1 x.cols.length d1, .slice X2 x.key.length d2, .int .i64 x.part, .slice X3 x.idx.length d3] 30)).cell? ⟨wr.heap.size, 2, none⟩ = some (.slice X2 x.key.length d2) := blk_cell hJa.hd 2
        have g3 : (wr.alloc (Obj.cells #[.string x.name, .slice X1 x.cols.length d1, .slice X2 x.key.length d2, .int .i64 x.part, .slice X3 x.idx.length d3] 30)).cell? ⟨wr.heap.size, 3, none⟩ = some (.int .i64 x.part) := blk_cell hJa.hd 3
        have g4 : (wr.alloc (Obj.cells #[.string x.name, .slice X1 x.cols.length d1, .slice X2 x.key.length d2, .int .i64 x.part, .slice X3 x.idx.length d3] 30)).cell? ⟨wr.heap.size, 4, none⟩ = some (.slice X3 x.idx.length d3) := blk_cell hJa.hd 4
        have HJa := Aside0.mk hJa
        clear hJa
        go_wp2_with fail
        refine (HJa.out.table x X1 d1 X2 d2 X3 d3 HX1.out HX2.out HX3.out HMX.out (by simp only [List.length_append]; have := HLEN.out; have := HST.out; omega)).mono ?_
        rintro e w3 ⟨rfl, v3, hJ3⟩
        have HJ4 := Aside0.mk hJ3.drop
        clear hJ3 g0 g1 g2 g3 g4 HJa q0 q1 q2 q3 q4
        go_wp2_with fail
        go_roundg (c.tables.length - (k + 1))
        case measure => have := HGN.out; omega
        case rel => exact ⟨k + 1, v3, by go_num, ⟨by have := HGN.out; omega⟩, by
          rw [HTS.out, List.flatMap_append]
          simpa [List.append_assoc] using HJ4⟩
      · have hxs : c.tables.take k = c.tables := List.take_of_length_le (by omega)
        rw [hxs] at hJ
        have f1 : wr.cell? ⟨w.heap.size, 1, none⟩ = some (.slice A2 c.procs.length c2) := blk_cell hJ.out.hd 1
        go_wp2_with fail
        refine (hJ.out.lit c.procs.length (by omega) (by rw [Int.toNat_natCast]; simp only [List.length_append]; have := HLEN.out; omega)).mono ?_
        rintro e w3 ⟨rfl, v3, hJ3⟩
        rw [Int.toNat_natCast] at hJ3
        have HJ3 := Aside0.mk hJ3
        clear hJ3 f1 hJ hxs
        have f1 : w3.cell? ⟨w.heap.size, 1, none⟩ = some (.slice A2 c.procs.length c2) := blk_cell HJ3.out.hd 1
        go_wp2_with fail
        clear f1
        go_loopg [40] c.procs.length (fun gn i wr => ∃ (k : Nat) (vr : Value), i = .int .i64 k ∧ Aside0 (k + gn = c.procs.length) ∧ Aside0 (WJ w wq wr wb v0 vr (wN c.tables.length ++ c.tables.flatMap wTab ++ wN c.procs.length ++ (c.procs.take k).flatMap wPrc) [(w.heap.size, #[.slice A1 c.tables.length c1, .slice A2 c.procs.length c2], 25)]))
        case atStart => exact ⟨0, v3, rfl, ⟨by omega⟩, by simpa using HJ3⟩
        case round =>
          obtain ⟨j, vr, rfl, ⟨hgn⟩, hJ⟩ := hrel
          have HGN := Lib.hid hgn
          clear hgn HJ3
          by_cases hj : j < c.procs.length
          · obtain ⟨ad, x, X1, d1, X2, d2, rfl, hx, hmem0, hts0, q0, q1, q2, q3, q4, hc1, hc2⟩ := prc_at HC2.out hJ.out.bel j hj
            have HST := Lib.hid (flat_step_le wPrc _ _ _ hts0)
            have HTS := Lib.hid hts0
            have HX1 := Aside0.mk hc1.2
            have HX2 := Aside0.mk hc2.2
            have HMX := Lib.hid (HR.out.2.2.2.1 x hmem0)
            clear hx hmem0 hts0 hc1 hc2
            have p0 : (0 : Int) ≤ j := by omega
            have p1 : (j : Int) < c.procs.length := by omega
            have hJa := hJ.out.alloc #[.string x.name, .slice X1 x.params.length d1, .slice X2 x.body.length d2, .int .i64 x.rows, .int .i64 x.bytes] 34 (by decide) (by decide)
            have g0 : (wr.alloc (Obj.cells #[.string x.name, .slice X1 x.params.length d1, .slice X2 x.body.length d2, .int .i64 x.rows, .int .i64 x.bytes] 34)).cell? ⟨wr.heap.size, 0, none⟩ = some (.string x.name) := blk_cell hJa.hd 0
            have g1 : (wr.alloc (Obj.cells #[.string x.name, .slice X1 x.params.length d1, .slice X2 x.body.length d2, .int .i64 x.rows, .int .i64 x.bytes] 34)).cell? ⟨wr.heap.size, 1, none⟩ = some (.slice X1 x.params.length d1) := blk_cell hJa.hd 1
            have g2 : (wr.alloc (Obj.cells #[.string x.name, .slice X1 x.params.length d1, .slice X2 x.body.length d2, .int .i64 x.rows, .int .i64 x.bytes] 34)).cell? ⟨wr.heap.size, 2, none⟩ = some (.slice X2 x.body.length d2) := blk_cell hJa.hd 2
            have g3 : (wr.alloc (Obj.cells #[.string x.name, .slice X1 x.params.length d1, .slice X2 x.body.length d2, .int .i64 x.rows, .int .i64 x.bytes] 34)).cell? ⟨wr.heap.size, 3, none⟩ = some (.int .i64 x.rows) := blk_cell hJa.hd 3
            have g4 : (wr.alloc (Obj.cells #[.string x.name, .slice X1 x.params.length d1, .slice X2 x.body.length d2, .int .i64 x.rows, .int .i64 x.bytes] 34)).cell? ⟨wr.heap.size, 4, none⟩ = some (.int .i64 x.bytes) := blk_cell hJa.hd 4
            have HJa := Aside0.mk hJa
            clear hJa
            go_wp2_with fail
            refine (HJa.out.proc x X1 d1 X2 d2 HX1.out HX2.out HMX.out (by simp only [List.length_append]; have := HLEN.out; have := HST.out; omega)).mono ?_
            rintro e w4 ⟨rfl, v4, hJ4⟩
            have HJ4 := Aside0.mk hJ4.drop
            clear hJ4 g0 g1 g2 g3 g4 HJa q0 q1 q2 q3 q4
            go_wp2_with fail
            go_roundg (c.procs.length - (j + 1))
            case measure => have := HGN.out; omega
            case rel => exact ⟨j + 1, v4, by go_num, ⟨by have := HGN.out; omega⟩, by
              rw [HTS.out, List.flatMap_append]
              simpa [List.append_assoc] using HJ4⟩
          · have hxs : c.procs.take j = c.procs := List.take_of_length_le (by omega)
            rw [hxs] at hJ
            obtain ⟨V, vc, hvs⟩ := own_slice hJ.out.ws.own
            subst hvs
            have hcat : wN c.tables.length ++ c.tables.flatMap wTab ++ wN c.procs.length ++ c.procs.flatMap wPrc = wCat c := by simp [wCat, List.append_assoc]
            rw [hcat] at hJ
            have f0 : wr.cell? ⟨wb, 0, none⟩ = some (.slice V (wCat c).length vc) := blk_cell hJ.out.ws.blk 0
            have hconv := own_string (P := Try.prog) (src := 75) (dst := 9) Try.underlying75 Try.underlying5 Try.underlying9 hJ.out.ws.own
            clear hxs
            go_wp2_with fail
            go_ret2
            exact ⟨by rw [HRES.out]; rfl, hJ.out.bel⟩
  · rw [decide_eq_false hR]
    have hres : encO c = (⟨#[]⟩, 80) := if_neg hR
    have HRES := Lib.hid hres
    clear hR hres
    go_wp2_with fail
    go_ret2
    exact ⟨by rw [HRES.out]; rfl, HJ1.out.1⟩
end Go.Proofs.Ytcmgdieeclninaa
