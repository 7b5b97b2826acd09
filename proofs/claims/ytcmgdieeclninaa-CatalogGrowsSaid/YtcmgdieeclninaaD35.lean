/- Layer 8: the walk of the writer's proc. -/
import Derived.Test.YtcmgdieeclninaaD34
set_option linter.unusedVariables false
set_option linter.unusedSimpArgs false
namespace Go.Proofs.Ytcmgdieeclninaa
open Go.RowKit Go.Proofs.YtcmgdieeclninaaW.PrintWords
set_option maxRecDepth 100000 in
set_option maxHeartbeats 8000000 in
theorem wproc_any (t : Prc) (A1 : Option Addr) (c1 : Nat) (A2 : Option Addr) (c2 : Nat) (wb : Nat) (v : Value) (xs : List Int) (w0 w : World)
    (hC1 : kPrm.C w0 A1 t.params.length t.params) (hC2 : Kd.string.C w0 A2 t.body.length t.body) (hmay : MayPrc t)
    (hS : WS w wb w0.heap.size v xs) (hB : Below w0.heap.size w0 w) (hi : w0.heap.size ≤ wb) (hlen : xs.length + (wPrc t).length ≤ 1099511627776) :
    Calls Try.prog 47 #[.pointer (some ⟨wb, 0, none⟩), .agg #[.string t.name, .slice A1 t.params.length c1, .slice A2 t.body.length c2, .int .i64 t.rows, .int .i64 t.bytes]] w (WPost w0 w wb v (xs ++ wPrc t)) := by
  have hl1 : xs.length + ((wT t.name).length + ((wN t.params.length).length + (t.params.flatMap wP).length + ((wN t.body.length).length + (t.body.flatMap wT).length + ((wN t.rows.toNat).length + (wN t.bytes.toNat).length)))) ≤ 1099511627776 := by
    have h := hlen
    unfold wPrc at h
    simpa only [List.length_append] using h
  have HLEN := Lib.hid hl1
  have HMAY := Lib.hid hmay
  have hn8 : t.params.length ≤ 8 := hmay.2.2.2.1
  have hn4 : t.body.length ≤ 8 := hmay.2.2.2.2.2.1
  have hnm := hmay.1.2.1
  have hr0 := hmay.2.1
  have hb0 := hmay.2.2.1
  have HC1 := Aside0.mk hC1
  have HC2 := Aside0.mk hC2
  have HJ0 := Aside0.mk ((WJ.start hS hB hi).alloc #[.string t.name, .slice A1 t.params.length c1, .slice A2 t.body.length c2, .int .i64 t.rows, .int .i64 t.bytes] 34 (by decide) (by decide))
  clear hC1 hC2 hS hB hi hlen hl1 hmay
  have f0 : (w.alloc (Obj.cells #[.string t.name, .slice A1 t.params.length c1, .slice A2 t.body.length c2, .int .i64 t.rows, .int .i64 t.bytes] 34)).cell? ⟨w.heap.size, 0, none⟩ = some (.string t.name) := blk_cell HJ0.out.hd 0
  go_enter Try.func47, Try.ntmps47
  go_wp2_with fail
  refine (HJ0.out.text t.name (by omega) (by have := HLEN.out; omega)).mono ?_
  rintro e w1 ⟨rfl, v1, hJ1⟩
  have HJ1 := Aside0.mk hJ1
  obtain ⟨b3, hb3⟩ : ∃ b, b = w.heap.size := ⟨_, rfl⟩
  rw [← hb3] at HJ1
  rw [← hb3]
  clear hJ1 f0 HJ0 hb3
  have f1 : w1.cell? ⟨b3, 1, none⟩ = some (.slice A1 t.params.length c1) := blk_cell HJ1.out.hd 1
  go_wp2_with fail
  refine (HJ1.out.lit t.params.length (by omega) (by rw [Int.toNat_natCast, List.length_append]; have := HLEN.out; omega)).mono ?_
  rintro e w2 ⟨rfl, v2, hJ2⟩
  rw [Int.toNat_natCast] at hJ2
  have HJ2 := Aside0.mk hJ2
  clear hJ2 f1 HJ1
  have f1 : w2.cell? ⟨b3, 1, none⟩ = some (.slice A1 t.params.length c1) := blk_cell HJ2.out.hd 1
  go_wp2_with fail
  clear f1
  go_loopg [21] t.params.length (fun gn i wr => ∃ (k : Nat) (vr : Value), i = .int .i64 k ∧ Aside0 (k + gn = t.params.length) ∧ Aside0 (WJ w0 w wr wb v vr (xs ++ wT t.name ++ wN t.params.length ++ (t.params.take k).flatMap wP) [(b3, #[.string t.name, .slice A1 t.params.length c1, .slice A2 t.body.length c2, .int .i64 t.rows, .int .i64 t.bytes], 34)]))
  case atStart => exact ⟨0, v2, rfl, ⟨by omega⟩, by simpa using HJ2⟩
  case round =>
    obtain ⟨k, vr, rfl, ⟨hgn⟩, hJ⟩ := hrel
    have HGN := Lib.hid hgn
    clear hgn HJ2
    by_cases hk : k < t.params.length
    · obtain ⟨ad, x, rfl, hx, hmem0, hts0, q0, q1⟩ := prm_at HC1.out hJ.out.bel k hk
      have hst := flat_step_le wP _ _ _ hts0
      have hwc : (wP x).length = (wT x.name).length + (wN x.type.toNat).length := by unfold wP; rw [List.length_append]
      have HST := Lib.hid (hwc ▸ hst)
      have HTS := Lib.hid hts0
      have hxn : x.name.size ≤ 16 := (HMAY.out.2.2.2.2.2.2.1.1 _ (List.mem_map_of_mem (f := (·.name)) hmem0)).2.1
      have hxt := HMAY.out.2.2.2.2.2.2.2.1 x hmem0
      unfold TypeOk at hxt
      clear hx hmem0 hts0 hst hwc
      have p0 : (0 : Int) ≤ k := by omega
      have p1 : (k : Int) < t.params.length := by omega
      have hJa := hJ.out.alloc #[.string x.name, .int .i64 x.type] 66 (by decide) (by decide)
      have g0 : (wr.alloc (Obj.cells #[.string x.name, .int .i64 x.type] 66)).cell? ⟨wr.heap.size, 0, none⟩ = some (.string x.name) := blk_cell hJa.hd 0
      have HJa := Aside0.mk hJa
      clear hJa
      go_wp2_with fail
      refine (HJa.out.text x.name (by omega) (by simp only [List.length_append]; have := HLEN.out; have := HST.out; omega)).mono ?_
      rintro e w3 ⟨rfl, v3, hJ3⟩
      obtain ⟨b5, hb5⟩ : ∃ b, b = wr.heap.size := ⟨_, rfl⟩
      rw [← hb5] at hJ3
      rw [← hb5]
      have HJ3 := Aside0.mk hJ3
      clear hJ3 g0 HJa hb5 q0 q1
      have g1 : w3.cell? ⟨b5, 1, none⟩ = some (.int .i64 x.type) := blk_cell HJ3.out.hd 1
      go_wp2_with fail
      refine (HJ3.out.lit x.type (by omega) (by simp only [List.length_append]; have := HLEN.out; have := HST.out; omega)).mono ?_
      rintro e w4 ⟨rfl, v4, hJ4⟩
      have HJ4 := Aside0.mk hJ4.drop
      clear hJ4 g1 HJ3
      go_wp2_with fail
      go_roundg (t.params.length - (k + 1))
      case measure => have := HGN.out; omega
      case rel => exact ⟨k + 1, v4, by go_num, ⟨by have := HGN.out; omega⟩, by
        rw [HTS.out, List.flatMap_append]
        simpa [wP, List.append_assoc] using HJ4⟩
    · have hxs : t.params.take k = t.params := List.take_of_length_le (by omega)
      rw [hxs] at hJ
      have f2 : wr.cell? ⟨b3, 2, none⟩ = some (.slice A2 t.body.length c2) := blk_cell hJ.out.hd 2
      go_wp2_with fail
      refine (hJ.out.lit t.body.length (by omega) (by rw [Int.toNat_natCast]; simp only [List.length_append]; have := HLEN.out; omega)).mono ?_
      rintro e w3 ⟨rfl, v3, hJ3⟩
      rw [Int.toNat_natCast] at hJ3
      have HJ3 := Aside0.mk hJ3
      clear hJ3 f2 hJ hxs
      have f2 : w3.cell? ⟨b3, 2, none⟩ = some (.slice A2 t.body.length c2) := blk_cell HJ3.out.hd 2
      go_wp2_with fail
      clear f2
      obtain ⟨PRE, hPRE⟩ : ∃ z, z = xs ++ wT t.name ++ wN t.params.length ++ t.params.flatMap wP ++ wN t.body.length := ⟨_, rfl⟩
      rw [← hPRE] at HJ3
      have hPL : PRE.length + (t.body.flatMap wT).length + (wN t.rows.toNat).length + (wN t.bytes.toNat).length ≤ 1099511627776 := by rw [hPRE]; simp only [List.length_append]; have := HLEN.out; omega
      have HPRE := Lib.hid hPRE
      have HPL := Lib.hid hPL
      clear hPRE hPL
      go_loopg [44] t.body.length (fun gn i wr => ∃ (k : Nat) (vr : Value), i = .int .i64 k ∧ Aside0 (k + gn = t.body.length) ∧ Aside0 (WJ w0 w wr wb v vr (PRE ++ (t.body.take k).flatMap wT) [(b3, #[.string t.name, .slice A1 t.params.length c1, .slice A2 t.body.length c2, .int .i64 t.rows, .int .i64 t.bytes], 34)]))
      case atStart => exact ⟨0, v3, rfl, ⟨by omega⟩, by simpa using HJ3⟩
      case round =>
        obtain ⟨j, vr, rfl, ⟨hgn⟩, hJ⟩ := hrel
        have HGN := Lib.hid hgn
        clear hgn HJ3
        by_cases hj : j < t.body.length
        · obtain ⟨ad, x, rfl, hx, hmem0, hts0, q0⟩ := str_el HC2.out hJ.out.bel j hj
          have HST := Lib.hid (flat_step_le wT _ _ _ hts0)
          have HTS := Lib.hid hts0
          have hxn : x.size ≤ 1000 := (HMAY.out.2.2.2.2.2.2.2.2 x hmem0).2
          clear hx hmem0 hts0
          have p0 : (0 : Int) ≤ j := by omega
          have p1 : (j : Int) < t.body.length := by omega
          go_wp2_with fail
          refine (hJ.out.text x (by omega) (by simp only [List.length_append]; have := HPL.out; have := HST.out; omega)).mono ?_
          rintro e w6 ⟨rfl, v6, hJ6⟩
          have HJ6 := Aside0.mk hJ6
          clear hJ6 q0
          go_wp2_with fail
          go_roundg (t.body.length - (j + 1))
          case measure => have := HGN.out; omega
          case rel => exact ⟨j + 1, v6, by go_num, ⟨by have := HGN.out; omega⟩, by
            rw [HTS.out, List.flatMap_append]
            simpa [List.append_assoc] using HJ6⟩
        · have hxs : t.body.take j = t.body := List.take_of_length_le (by omega)
          rw [hxs] at hJ
          have f3 : wr.cell? ⟨b3, 3, none⟩ = some (.int .i64 t.rows) := blk_cell hJ.out.hd 3
          have f4 : wr.cell? ⟨b3, 4, none⟩ = some (.int .i64 t.bytes) := blk_cell hJ.out.hd 4
          go_wp2_with fail
          refine (hJ.out.lit2 t.rows t.bytes (by omega) (by omega) (by simp only [List.length_append]; have := HPL.out; omega)).mono ?_
          rintro e w6 ⟨rfl, v6, hJ6⟩
          have HJ6 := Aside0.mk hJ6
          clear hJ6 f3 f4
          go_wp2_with fail
          go_end0
          have h1 : xs ++ wPrc t = PRE ++ t.body.flatMap wT ++ (wN t.rows.toNat ++ wN t.bytes.toNat) := by rw [HPRE.out]; simp [wPrc, List.append_assoc]
          rw [h1]
          exact ⟨rfl, v6, HJ6.out.ws, HJ6.out.wg⟩
theorem WJ.table {w0 w wr : World} {wb : Nat} {v0 v : Value} {xs : List Int} {L : List (Nat × Array Value × TypeId)} (h : WJ w0 w wr wb v0 v xs L) (t : Tab) (A1 : Option Addr) (c1 : Nat) (A2 : Option Addr) (c2 : Nat) (A3 : Option Addr) (c3 : Nat)
    (hC1 : kCol.C w0 A1 t.cols.length t.cols) (hC2 : (Kd.int .i64).C w0 A2 t.key.length t.key) (hC3 : kIdx.C w0 A3 t.idx.length t.idx) (hmay : MayTab t) (hlen : xs.length + (wTab t).length ≤ 1099511627776) :
    Calls Try.prog 46 #[.pointer (some ⟨wb, 0, none⟩), .agg #[.string t.name, .slice A1 t.cols.length c1, .slice A2 t.key.length c2, .int .i64 t.part, .slice A3 t.idx.length c3]] wr (WOut w0 w wb v0 (xs ++ wTab t) L) :=
  (wtable_any t A1 c1 A2 c2 A3 c3 wb v xs w0 wr hC1 hC2 hC3 hmay h.ws h.bel h.hi hlen).mono (fun e w1 hp => h.out hp)
theorem WJ.proc {w0 w wr : World} {wb : Nat} {v0 v : Value} {xs : List Int} {L : List (Nat × Array Value × TypeId)} (h : WJ w0 w wr wb v0 v xs L) (t : Prc) (A1 : Option Addr) (c1 : Nat) (A2 : Option Addr) (c2 : Nat)
    (hC1 : kPrm.C w0 A1 t.params.length t.params) (hC2 : Kd.string.C w0 A2 t.body.length t.body) (hmay : MayPrc t) (hlen : xs.length + (wPrc t).length ≤ 1099511627776) :
    Calls Try.prog 47 #[.pointer (some ⟨wb, 0, none⟩), .agg #[.string t.name, .slice A1 t.params.length c1, .slice A2 t.body.length c2, .int .i64 t.rows, .int .i64 t.bytes]] wr (WOut w0 w wb v0 (xs ++ wPrc t) L) :=
  (wproc_any t A1 c1 A2 c2 wb v xs w0 wr hC1 hC2 hmay h.ws h.bel h.hi hlen).mono (fun e w1 hp => h.out hp)
end Go.Proofs.Ytcmgdieeclninaa
