/- Layer 8: the walk of the writer's table. -/
import Derived.Test.YtcmgdieeclninaaD33
set_option linter.unusedVariables false
set_option linter.unusedSimpArgs false
namespace Go.Proofs.Ytcmgdieeclninaa
open Go.RowKit Go.Proofs.YtcmgdieeclninaaW.PrintWords
/-- What a writer's call tells of a walk. -/
def WOut (w0 w : World) (wb : Nat) (v0 : Value) (xs : List Int) (L : List (Nat × Array Value × TypeId)) (e : Ending) (w' : World) : Prop := e = .returned (.tuple #[]) ∧ ∃ v', WJ w0 w w' wb v0 v' xs L
theorem WJ.out {w0 w wr : World} {wb : Nat} {v0 v : Value} {xs zs : List Int} {L : List (Nat × Array Value × TypeId)} {e : Ending} {w' : World} (h : WJ w0 w wr wb v0 v xs L) (hp : WPost w0 wr wb v zs e w') : WOut w0 w wb v0 zs L e w' := by
  obtain ⟨he, v1, h1, h2⟩ := hp
  exact ⟨he, v1, h.step h1 h2⟩
theorem WJ.lits {w0 w wr : World} {wb : Nat} {v0 v : Value} {xs : List Int} {L : List (Nat × Array Value × TypeId)} (h : WJ w0 w wr wb v0 v xs L) (ns : List Int) (h0 : ∀ n ∈ ns, 0 ≤ n ∧ n ≤ 1099511627776) (hn : ns.length ≤ 8) (hlen : xs.length + (ns.flatMap (fun n => wN n.toNat)).length ≤ 1099511627776) :
    Calls Try.prog 45 #[.pointer (some ⟨wb, 0, none⟩), .slice (some ⟨wr.heap.size, 0, none⟩) ns.length ns.length] (wr.alloc (.cells (nums .i64 ns).toArray 3 (0, 0))) (WOut w0 w wb v0 (xs ++ ns.flatMap (fun n => wN n.toNat)) L) := by
  have hJ := h.alloc (nums .i64 ns).toArray 3 (by decide) (by decide)
  have hlt := blk_lt h.ws.blk
  refine (number_any (some ⟨wr.heap.size, 0, none⟩) ns.length ns.length ns wb v xs w0 _ (lit_C wr ns (by omega)) (fun _ ad he => ?_) hJ.ws hJ.bel hJ.hi h0 hlen).mono ?_
  · injection he with he
    subst he
    exact ⟨by show wr.heap.size ≠ wb; omega, fun hh => by have := own_lt h.ws.own _ hh.symm; (have h2 : wr.heap.size < wr.heap.size := this); omega, by show wr.heap.size < (wr.alloc _).heap.size; simp⟩
  · rintro e w1 hp
    obtain ⟨he, v1, h1⟩ := hJ.out hp
    exact ⟨he, v1, h1.drop⟩
theorem WJ.lit {w0 w wr : World} {wb : Nat} {v0 v : Value} {xs : List Int} {L : List (Nat × Array Value × TypeId)} (h : WJ w0 w wr wb v0 v xs L) (n : Int) (h0 : 0 ≤ n ∧ n ≤ 1099511627776) (hlen : xs.length + (wN n.toNat).length ≤ 1099511627776) :
    Calls Try.prog 45 #[.pointer (some ⟨wb, 0, none⟩), .slice (some ⟨wr.heap.size, 0, none⟩) 1 1] (wr.alloc (.cells #[.int .i64 n] 3 (0, 0))) (WOut w0 w wb v0 (xs ++ wN n.toNat) L) := by
  have h1 := h.lits [n] (by simpa using h0) (by simp) (by simpa using hlen)
  simpa [nums] using h1
theorem WJ.lit2 {w0 w wr : World} {wb : Nat} {v0 v : Value} {xs : List Int} {L : List (Nat × Array Value × TypeId)} (h : WJ w0 w wr wb v0 v xs L) (n m : Int) (h0 : 0 ≤ n ∧ n ≤ 1099511627776) (h1 : 0 ≤ m ∧ m ≤ 1099511627776) (hlen : xs.length + ((wN n.toNat).length + (wN m.toNat).length) ≤ 1099511627776) :
    Calls Try.prog 45 #[.pointer (some ⟨wb, 0, none⟩), .slice (some ⟨wr.heap.size, 0, none⟩) 2 2] (wr.alloc (.cells #[.int .i64 n, .int .i64 m] 3 (0, 0))) (WOut w0 w wb v0 (xs ++ (wN n.toNat ++ wN m.toNat)) L) := by
  have h1 := h.lits [n, m] (by simp; exact ⟨h0, h1⟩) (by simp) (by simpa using hlen)
  simpa [nums] using h1
theorem WJ.numbers {w0 w wr : World} {wb : Nat} {v0 v : Value} {xs : List Int} {L : List (Nat × Array Value × TypeId)} (h : WJ w0 w wr wb v0 v xs L) (A : Option Addr) (m c : Nat) (l : List Int) (hC : (Kd.int .i64).C w0 A m l) (h0 : ∀ n ∈ l, 0 ≤ n ∧ n ≤ 1099511627776) (hlen : xs.length + (l.flatMap (fun n => wN n.toNat)).length ≤ 1099511627776) :
    Calls Try.prog 45 #[.pointer (some ⟨wb, 0, none⟩), .slice A m c] wr (WOut w0 w wb v0 (xs ++ l.flatMap (fun n => wN n.toNat)) L) := by
  refine (number_any A m c l wb v xs w0 wr (Kd.C_below hC h.bel) (fun hm ad he => ?_) h.ws h.bel h.hi h0 hlen).mono (fun e w1 hp => h.out hp)
  obtain ⟨ad', hA, hcell⟩ := int_at hC 0 hm
  rw [he] at hA
  injection hA with hA
  subst hA
  have hb := World.block_lt_of_cell? w0 _ hcell
  rw [add_block] at hb
  exact ⟨by have := h.hi; omega, fun hh => by have := own_base h.ws.own _ hh.symm; omega, Nat.lt_of_lt_of_le hb h.bel.size⟩
theorem WJ.text {w0 w wr : World} {wb : Nat} {v0 v : Value} {xs : List Int} {L : List (Nat × Array Value × TypeId)} (h : WJ w0 w wr wb v0 v xs L) (s : ByteArray) (hs : s.size ≤ 1099511627776) (hlen : xs.length + (wT s).length ≤ 1099511627776) :
    Calls Try.prog 83 #[.pointer (some ⟨wb, 0, none⟩), .string s] wr (WOut w0 w wb v0 (xs ++ wT s) L) := (text_any s wb v xs w0 wr h.ws h.bel h.hi hs hlen).mono (fun e w1 hp => h.out hp)
theorem WJ.flag {w0 w wr : World} {wb : Nat} {v0 v : Value} {xs : List Int} {L : List (Nat × Array Value × TypeId)} (h : WJ w0 w wr wb v0 v xs L) (b : Bool) (hlen : xs.length + 1 ≤ 1099511627776) :
    Calls Try.prog 84 #[.pointer (some ⟨wb, 0, none⟩), .bool b] wr (WOut w0 w wb v0 (xs ++ wF b) L) := (flag_any b wb v xs w0 wr h.ws h.bel h.hi hlen).mono (fun e w1 hp => h.out hp)
theorem flat_step_le {α : Type} (f : α → List Int) (l : List α) (k : Nat) (x : α) (h : l.take (k + 1) = l.take k ++ [x]) : ((l.take k).flatMap f).length + (f x).length ≤ (l.flatMap f).length := by
  have h1 := flat_take_le f l (k + 1)
  rw [h, List.flatMap_append, List.length_append] at h1
  simpa using h1
theorem wF_len (b : Bool) : (wF b).length = 1 := rfl
set_option maxRecDepth 100000 in
set_option maxHeartbeats 8000000 in
theorem wtable_any (t : Tab) (A1 : Option Addr) (c1 : Nat) (A2 : Option Addr) (c2 : Nat) (A3 : Option Addr) (c3 : Nat) (wb : Nat) (v : Value) (xs : List Int) (w0 w : World)
    (hC1 : kCol.C w0 A1 t.cols.length t.cols) (hC2 : (Kd.int .i64).C w0 A2 t.key.length t.key) (hC3 : kIdx.C w0 A3 t.idx.length t.idx) (hmay : MayTab t)
    (hS : WS w wb w0.heap.size v xs) (hB : Below w0.heap.size w0 w) (hi : w0.heap.size ≤ wb) (hlen : xs.length + (wTab t).length ≤ 1099511627776) :
    Calls Try.prog 46 #[.pointer (some ⟨wb, 0, none⟩), .agg #[.string t.name, .slice A1 t.cols.length c1, .slice A2 t.key.length c2, .int .i64 t.part, .slice A3 t.idx.length c3]] w (WPost w0 w wb v (xs ++ wTab t)) := by
  have hl1 : xs.length + ((wT t.name).length + ((wN t.cols.length).length + (t.cols.flatMap wC).length + ((wN t.key.length).length + (t.key.flatMap (fun n => wN n.toNat)).length + ((wN t.part.toNat).length + ((wN t.idx.length).length + (t.idx.flatMap wI).length))))) ≤ 1099511627776 := by
    have h := hlen
    unfold wTab wL at h
    simpa only [List.length_append] using h
  have HLEN := Lib.hid hl1
  have HMAY := Lib.hid hmay
  have hn16 : t.cols.length ≤ 16 := hmay.2.2.1
  have hn4 : t.idx.length ≤ 4 := hmay.2.2.2.1
  have hnm := hmay.1.2.1
  have hk8 := hmay.2.2.2.2.2.2.1.2.1
  have HK := Lib.hid hmay.2.2.2.2.2.2.1.2.2.1
  have hp0 := HK.out t.part hmay.2.2.2.2.2.2.2.2.1
  have HC1 := Aside0.mk hC1
  have HC2 := Aside0.mk hC2
  have HC3 := Aside0.mk hC3
  have HJ0 := Aside0.mk ((WJ.start hS hB hi).alloc #[.string t.name, .slice A1 t.cols.length c1, .slice A2 t.key.length c2, .int .i64 t.part, .slice A3 t.idx.length c3] 30 (by decide) (by decide))
  clear hC1 hC2 hC3 hS hB hi hlen hl1 hmay
  have f0 : (w.alloc (Obj.cells #[.string t.name, .slice A1 t.cols.length c1, .slice A2 t.key.length c2, .int .i64 t.part, .slice A3 t.idx.length c3] 30)).cell? ⟨w.heap.size, 0, none⟩ = some (.string t.name) := blk_cell HJ0.out.hd 0
  go_enter Try.func46, Try.ntmps46
  go_wp2_with fail
  refine (HJ0.out.text t.name (by omega) (by have := HLEN.out; omega)).mono ?_
  rintro e w1 ⟨rfl, v1, hJ1⟩
  have HJ1 := Aside0.mk hJ1
  obtain ⟨b3, hb3⟩ : ∃ b, b = w.heap.size := ⟨_, rfl⟩
  rw [← hb3] at HJ1
  rw [← hb3]
  clear hJ1 f0 HJ0 hb3
  have f1 : w1.cell? ⟨b3, 1, none⟩ = some (.slice A1 t.cols.length c1) := blk_cell HJ1.out.hd 1
  go_wp2_with fail
  refine (HJ1.out.lit t.cols.length (by omega) (by rw [Int.toNat_natCast, List.length_append]; have := HLEN.out; omega)).mono ?_
  rintro e w2 ⟨rfl, v2, hJ2⟩
  rw [Int.toNat_natCast] at hJ2
  have HJ2 := Aside0.mk hJ2
  clear hJ2 f1 HJ1
  have f1 : w2.cell? ⟨b3, 1, none⟩ = some (.slice A1 t.cols.length c1) := blk_cell HJ2.out.hd 1
  go_wp2_with fail
  clear f1
  go_loopg [21] t.cols.length (fun gn i wr => ∃ (k : Nat) (vr : Value), i = .int .i64 k ∧ Aside0 (k + gn = t.cols.length) ∧ Aside0 (WJ w0 w wr wb v vr (xs ++ wT t.name ++ wN t.cols.length ++ (t.cols.take k).flatMap wC) [(b3, #[.string t.name, .slice A1 t.cols.length c1, .slice A2 t.key.length c2, .int .i64 t.part, .slice A3 t.idx.length c3], 30)]))
  case atStart => exact ⟨0, v2, rfl, ⟨by omega⟩, by simpa using HJ2⟩
  case round =>
    obtain ⟨k, vr, rfl, ⟨hgn⟩, hJ⟩ := hrel
    have HGN := Lib.hid hgn
    clear hgn HJ2
    by_cases hk : k < t.cols.length
    · obtain ⟨ad, x, rfl, hx, hmem0, hts0, q0, q1, q2⟩ := col_at HC1.out hJ.out.bel k hk
      have hst := flat_step_le wC _ _ _ hts0
      have hwc : (wC x).length = (wT x.name).length + ((wN x.type.toNat).length + 1) := by unfold wC; rw [List.length_append, List.length_append, wF_len]
      have HST := Lib.hid (hwc ▸ hst)
      have HTS := Lib.hid hts0
      have hxn : x.name.size ≤ 16 := (HMAY.out.2.2.2.2.1.1 _ (List.mem_map_of_mem (f := (·.name)) hmem0)).2.1
      have hxt := HMAY.out.2.2.2.2.2.1 x hmem0
      unfold TypeOk at hxt
      clear hx hmem0 hts0 hst hwc
      have p0 : (0 : Int) ≤ k := by omega
      have p1 : (k : Int) < t.cols.length := by omega
      have hJa := hJ.out.alloc #[.string x.name, .int .i64 x.type, .bool x.notNull] 62 (by decide) (by decide)
      have g0 : (wr.alloc (Obj.cells #[.string x.name, .int .i64 x.type, .bool x.notNull] 62)).cell? ⟨wr.heap.size, 0, none⟩ = some (.string x.name) := blk_cell hJa.hd 0
      have HJa := Aside0.mk hJa
      clear hJa
      go_wp2_with fail
      refine (HJa.out.text x.name (by omega) (by simp only [List.length_append]; have := HLEN.out; have := HST.out; omega)).mono ?_
      rintro e w3 ⟨rfl, v3, hJ3⟩
      obtain ⟨b5, hb5⟩ : ∃ b, b = wr.heap.size := ⟨_, rfl⟩
      rw [← hb5] at hJ3
      rw [← hb5]
      have HJ3 := Aside0.mk hJ3
      clear hJ3 g0 HJa hb5 q0 q1 q2
      have g1 : w3.cell? ⟨b5, 1, none⟩ = some (.int .i64 x.type) := blk_cell HJ3.out.hd 1
      go_wp2_with fail
      refine (HJ3.out.lit x.type (by omega) (by simp only [List.length_append]; have := HLEN.out; have := HST.out; omega)).mono ?_
      rintro e w4 ⟨rfl, v4, hJ4⟩
      have HJ4 := Aside0.mk hJ4
      clear hJ4 g1 HJ3
      have g2 : w4.cell? ⟨b5, 2, none⟩ = some (.bool x.notNull) := blk_cell HJ4.out.hd 2
      go_wp2_with fail
      refine (HJ4.out.flag x.notNull (by simp only [List.length_append]; have := HLEN.out; have := HST.out; omega)).mono ?_
      rintro e w5 ⟨rfl, v5, hJ5⟩
      have HJ5 := Aside0.mk hJ5.drop
      clear hJ5 g2 HJ4
      go_wp2_with fail
      go_roundg (t.cols.length - (k + 1))
      case measure => have := HGN.out; omega
      case rel => exact ⟨k + 1, v5, by go_num, ⟨by have := HGN.out; omega⟩, by
        rw [HTS.out, List.flatMap_append]
        simpa [wC, List.append_assoc] using HJ5⟩
    · have hxs : t.cols.take k = t.cols := List.take_of_length_le (by omega)
      rw [hxs] at hJ
      have f2 : wr.cell? ⟨b3, 2, none⟩ = some (.slice A2 t.key.length c2) := blk_cell hJ.out.hd 2
      go_wp2_with fail
      refine (hJ.out.lit t.key.length (by omega) (by rw [Int.toNat_natCast]; simp only [List.length_append]; have := HLEN.out; omega)).mono ?_
      rintro e w3 ⟨rfl, v3, hJ3⟩
      rw [Int.toNat_natCast] at hJ3
      have HJ3 := Aside0.mk hJ3
      clear hJ3 f2 hJ hxs
      have f2 : w3.cell? ⟨b3, 2, none⟩ = some (.slice A2 t.key.length c2) := blk_cell HJ3.out.hd 2
      go_wp2_with fail
      refine (HJ3.out.numbers A2 t.key.length c2 t.key HC2.out (fun n hn => by have := HK.out n hn; omega) (by simp only [List.length_append]; have := HLEN.out; omega)).mono ?_
      rintro e w4 ⟨rfl, v4, hJ4⟩
      have HJ4 := Aside0.mk hJ4
      clear hJ4 f2 HJ3
      have f3 : w4.cell? ⟨b3, 3, none⟩ = some (.int .i64 t.part) := blk_cell HJ4.out.hd 3
      have f4 : w4.cell? ⟨b3, 4, none⟩ = some (.slice A3 t.idx.length c3) := blk_cell HJ4.out.hd 4
      go_wp2_with fail
      refine (HJ4.out.lit2 t.part t.idx.length (by omega) (by omega) (by rw [Int.toNat_natCast]; simp only [List.length_append]; have := HLEN.out; omega)).mono ?_
      rintro e w5 ⟨rfl, v5, hJ5⟩
      rw [Int.toNat_natCast] at hJ5
      have HJ5 := Aside0.mk hJ5
      clear hJ5 f3 f4 HJ4
      have f4 : w5.cell? ⟨b3, 4, none⟩ = some (.slice A3 t.idx.length c3) := blk_cell HJ5.out.hd 4
      go_wp2_with fail
      clear f4
      obtain ⟨PRE, hPRE⟩ : ∃ z, z = xs ++ wT t.name ++ wN t.cols.length ++ t.cols.flatMap wC ++ wN t.key.length ++ t.key.flatMap (fun n => wN n.toNat) ++ (wN t.part.toNat ++ wN t.idx.length) := ⟨_, rfl⟩
      rw [← hPRE] at HJ5
      have hPL : PRE.length + (t.idx.flatMap wI).length ≤ 1099511627776 := by rw [hPRE]; simp only [List.length_append]; have := HLEN.out; omega
      have HPRE := Lib.hid hPRE
      have HPL := Lib.hid hPL
      clear hPRE hPL
      go_loopg [60] t.idx.length (fun gn i wr => ∃ (k : Nat) (vr : Value), i = .int .i64 k ∧ Aside0 (k + gn = t.idx.length) ∧ Aside0 (WJ w0 w wr wb v vr (PRE ++ (t.idx.take k).flatMap wI) [(b3, #[.string t.name, .slice A1 t.cols.length c1, .slice A2 t.key.length c2, .int .i64 t.part, .slice A3 t.idx.length c3], 30)]))
      case atStart => exact ⟨0, v5, rfl, ⟨by omega⟩, by simpa using HJ5⟩
      case round =>
        obtain ⟨j, vr, rfl, ⟨hgn⟩, hJ⟩ := hrel
        have HGN := Lib.hid hgn
        clear hgn HJ5
        by_cases hj : j < t.idx.length
        · obtain ⟨ad, x, Ax, cx, rfl, hx, hmem0, hts0, q0, q1, q2, hlx, hCx⟩ := idx_at HC3.out hJ.out.bel j hj
          have hst := flat_step_le wI _ _ _ hts0
          have hwc : (wI x).length = (wT x.name).length + (1 + ((wN x.columns.length).length + (x.columns.flatMap (fun n => wN n.toNat)).length)) := by unfold wI wL; simp only [List.length_append, wF_len]
          have HST := Lib.hid (hwc ▸ hst)
          have HTS := Lib.hid hts0
          have HCX := Aside0.mk hCx
          have hxn : x.name.size ≤ 16 := (HMAY.out.2.2.2.2.2.2.2.2.2.2.1 _ (List.mem_map_of_mem (f := (·.name)) hmem0)).2.1
          have hxc := (HMAY.out.2.2.2.2.2.2.2.2.2.1 x hmem0).2.1
          have HXK := Lib.hid (HMAY.out.2.2.2.2.2.2.2.2.2.1 x hmem0).2.2.1
          clear hx hmem0 hts0 hst hwc hCx
          have p0 : (0 : Int) ≤ j := by omega
          have p1 : (j : Int) < t.idx.length := by omega
          have hJa := hJ.out.alloc #[.string x.name, .slice Ax x.columns.length cx, .bool x.unique] 64 (by decide) (by decide)
          have g0 : (wr.alloc (Obj.cells #[.string x.name, .slice Ax x.columns.length cx, .bool x.unique] 64)).cell? ⟨wr.heap.size, 0, none⟩ = some (.string x.name) := blk_cell hJa.hd 0
          have HJa := Aside0.mk hJa
          clear hJa
          go_wp2_with fail
          refine (HJa.out.text x.name (by omega) (by simp only [List.length_append]; have := HPL.out; have := HST.out; omega)).mono ?_
          rintro e w6 ⟨rfl, v6, hJ6⟩
          obtain ⟨b7, hb7⟩ : ∃ b, b = wr.heap.size := ⟨_, rfl⟩
          rw [← hb7] at hJ6
          rw [← hb7]
          have HJ6 := Aside0.mk hJ6
          clear hJ6 g0 HJa hb7 q0 q1 q2
          have g2 : w6.cell? ⟨b7, 2, none⟩ = some (.bool x.unique) := blk_cell HJ6.out.hd 2
          go_wp2_with fail
          refine (HJ6.out.flag x.unique (by simp only [List.length_append]; have := HPL.out; have := HST.out; omega)).mono ?_
          rintro e w7 ⟨rfl, v7, hJ7⟩
          have HJ7 := Aside0.mk hJ7
          clear hJ7 g2 HJ6
          have g1 : w7.cell? ⟨b7, 1, none⟩ = some (.slice Ax x.columns.length cx) := blk_cell HJ7.out.hd 1
          go_wp2_with fail
          refine (HJ7.out.lit x.columns.length (by omega) (by rw [Int.toNat_natCast]; simp only [List.length_append, wF_len]; have := HPL.out; have := HST.out; omega)).mono ?_
          rintro e w8 ⟨rfl, v8, hJ8⟩
          rw [Int.toNat_natCast] at hJ8
          have HJ8 := Aside0.mk hJ8
          clear hJ8 g1 HJ7
          have g1 : w8.cell? ⟨b7, 1, none⟩ = some (.slice Ax x.columns.length cx) := blk_cell HJ8.out.hd 1
          go_wp2_with fail
          refine (HJ8.out.numbers Ax x.columns.length cx x.columns HCX.out (fun n hn => by have := HXK.out n hn; omega) (by simp only [List.length_append, wF_len]; have := HPL.out; have := HST.out; omega)).mono ?_
          rintro e w9 ⟨rfl, v9, hJ9⟩
          have HJ9 := Aside0.mk hJ9.drop
          clear hJ9 g1 HJ8
          go_wp2_with fail
          go_roundg (t.idx.length - (j + 1))
          case measure => have := HGN.out; omega
          case rel => exact ⟨j + 1, v9, by go_num, ⟨by have := HGN.out; omega⟩, by
            rw [HTS.out, List.flatMap_append]
            simpa [wI, wL, List.append_assoc] using HJ9⟩
        · have hxs : t.idx.take j = t.idx := List.take_of_length_le (by omega)
          rw [hxs] at hJ
          go_wp2_with fail
          go_end0
          have h1 : xs ++ wTab t = PRE ++ t.idx.flatMap wI := by rw [HPRE.out]; simp [wTab, wL, List.append_assoc]
          rw [h1]
          exact ⟨rfl, vr, hJ.out.ws, hJ.out.wg⟩
end Go.Proofs.Ytcmgdieeclninaa
