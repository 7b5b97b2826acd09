/- Layer 8: owned parts; the walk of the reference's TableOf. -/
import Derived.Test.YtcmgdieeclninaaD18
set_option linter.unusedVariables false
set_option linter.unusedSimpArgs false
namespace Go.Proofs.Ytcmgdieeclninaa
open Go.RowKit Go.Proofs.YtcmgdieeclninaaW.PrintWords
theorem kCol_M {w : World} {base : Nat} {ok : Nat → Prop} {x : Col} {cs : List Value} : kCol.M w base ok x cs ↔ cs = [.string x.name, .int .i64 x.type, .bool x.notNull] := by
  constructor
  · rintro ⟨c0, c1, rfl, rfl, c2, c3, rfl, rfl, rfl⟩; rfl
  · rintro rfl; exact ⟨[_], [_, _], rfl, rfl, [_], [_], rfl, rfl, rfl⟩
theorem kPrm_M {w : World} {base : Nat} {ok : Nat → Prop} {x : Prm} {cs : List Value} : kPrm.M w base ok x cs ↔ cs = [.string x.name, .int .i64 x.type] := by
  constructor
  · rintro ⟨c0, c1, rfl, rfl, rfl⟩; rfl
  · rintro rfl; exact ⟨[_], [_], rfl, rfl, rfl⟩
theorem kIdx_M {w : World} {base : Nat} {ok : Nat → Prop} {x : Idx} {cs : List Value} : kIdx.M w base ok x cs ↔ ∃ v, cs = [.string x.name, v, .bool x.unique] ∧ (Kd.int .i64).R 3 w base ok v x.columns := by
  constructor
  · rintro ⟨c0, c1, rfl, rfl, c2, c3, rfl, ⟨v, rfl, hR⟩, rfl⟩
    exact ⟨_, rfl, hR⟩
  · rintro ⟨v, rfl, hR⟩
    exact ⟨[_], [_, _], rfl, rfl, [_], [_], rfl, ⟨v, rfl, hR⟩, rfl⟩
theorem kTab_M {w : World} {base : Nat} {ok : Nat → Prop} {x : Tab} {cs : List Value} : kTab.M w base ok x cs ↔ ∃ v1 v2 v3, cs = [.string x.name, v1, v2, .int .i64 x.part, v3] ∧ kCol.R 62 w base ok v1 x.cols ∧ (Kd.int .i64).R 3 w base ok v2 x.key ∧ kIdx.R 64 w base ok v3 x.idx := by
  constructor
  · rintro ⟨c0, c1, rfl, rfl, c2, c3, rfl, ⟨v1, rfl, h1⟩, c4, c5, rfl, ⟨v2, rfl, h2⟩, c6, c7, rfl, rfl, ⟨v3, rfl, h3⟩⟩
    exact ⟨_, _, _, rfl, h1, h2, h3⟩
  · rintro ⟨v1, v2, v3, rfl, h1, h2, h3⟩
    exact ⟨[_], [_, _, _, _], rfl, rfl, [_], [_, _, _], rfl, ⟨_, rfl, h1⟩, [_], [_, _], rfl, ⟨_, rfl, h2⟩, [_], [_], rfl, rfl, ⟨_, rfl, h3⟩⟩
theorem kPrc_M {w : World} {base : Nat} {ok : Nat → Prop} {x : Prc} {cs : List Value} : kPrc.M w base ok x cs ↔ ∃ v1 v2, cs = [.string x.name, v1, v2, .int .i64 x.rows, .int .i64 x.bytes] ∧ kPrm.R 66 w base ok v1 x.params ∧ Kd.string.R 9 w base ok v2 x.body := by
  constructor
  · rintro ⟨c0, c1, rfl, rfl, c2, c3, rfl, ⟨v1, rfl, h1⟩, c4, c5, rfl, ⟨v2, rfl, h2⟩, c6, c7, rfl, rfl, rfl⟩
    exact ⟨_, _, rfl, h1, h2⟩
  · rintro ⟨v1, v2, rfl, h1, h2⟩
    exact ⟨[_], [_, _, _, _], rfl, rfl, [_], [_, _, _], rfl, ⟨_, rfl, h1⟩, [_], [_, _], rfl, ⟨_, rfl, h2⟩, [_], [_], rfl, rfl, rfl⟩
theorem kCat_M {w : World} {base : Nat} {ok : Nat → Prop} {x : Cat} {cs : List Value} : kCat.M w base ok x cs ↔ ∃ v1 v2, cs = [v1, v2] ∧ kTab.R 30 w base ok v1 x.tables ∧ kPrc.R 34 w base ok v2 x.procs := by
  constructor
  · rintro ⟨c0, c1, rfl, ⟨v1, rfl, h1⟩, ⟨v2, rfl, h2⟩⟩
    exact ⟨_, _, rfl, h1, h2⟩
  · rintro ⟨v1, v2, rfl, h1, h2⟩
    exact ⟨[_], [_], rfl, ⟨_, rfl, h1⟩, ⟨_, rfl, h2⟩⟩
theorem cell_blk (w w' : World) (g i : Nat) (h : w'.heap[g]? = w.heap[g]?) : w'.cell? ⟨g, i, none⟩ = w.cell? ⟨g, i, none⟩ := by simp only [World.cell?, h]
theorem info62 : (Try.prog.info? 62).map (fun i => (i.zero, i.size, i.bytes)) = some (some (.agg #[.string ByteArray.empty, .int .i64 0, .bool false]), 3, 32) := by kernel_rfl
theorem size62 : (Try.prog.info? 62).map (·.size) = some 3 := by kernel_rfl
theorem size64 : (Try.prog.info? 64).map (·.size) = some 3 := by kernel_rfl
theorem info64 : (Try.prog.info? 64).map (fun i => (i.zero, i.size, i.bytes)) = some (some (.agg #[.string ByteArray.empty, .slice none 0 0, .bool false]), 3, 48) := by kernel_rfl
/-- Three boxes on top of w, and what was below. -/
structure St3 (w u : World) (o1 o2 o3 : Obj) : Prop where
  b1 : u.heap[w.heap.size]? = some o1
  b2 : u.heap[w.heap.size + 1]? = some o2
  b3 : u.heap[w.heap.size + 1 + 1]? = some o3
  bel : Below w.heap.size w u
  sz : w.heap.size + 3 ≤ u.heap.size
theorem St3.start (w : World) (o1 o2 o3 : Obj) : St3 w (((w.alloc o1).alloc o2).alloc o3) o1 o2 o3 := by
  have h2 := blk_alloc (w.alloc o1) o2
  rw [show (w.alloc o1).heap.size = w.heap.size + 1 from by simp] at h2
  have h3 := blk_alloc ((w.alloc o1).alloc o2) o3
  rw [show ((w.alloc o1).alloc o2).heap.size = w.heap.size + 1 + 1 from by simp] at h3
  exact ⟨blk_alloc' (blk_alloc' (blk_alloc w _)), blk_alloc' h2, h3, below_alloc (below_alloc (below_alloc (Below.refl _ _) _) _) _, by simp⟩
theorem St3.mod {w u u' : World} {o1 o2 o3 : Obj} {S : Nat → Prop} (h : St3 w u o1 o2 o3) (k : Mod u u' S) (hS : ∀ i, S i → w.heap.size + 3 ≤ i) : St3 w u' o1 o2 o3 :=
  ⟨blk_mod h.b1 k (fun hs => by have := hS _ hs; omega), blk_mod h.b2 k (fun hs => by have := hS _ hs; omega), blk_mod h.b3 k (fun hs => by have := hS _ hs; omega), Mod.below h.bel k (by have := h.sz; omega) (fun i hs => by have := hS _ hs; omega), Nat.le_trans h.sz k.size⟩
theorem St3.below {w u u' : World} {o1 o2 o3 : Obj} (h : St3 w u o1 o2 o3) (k : Below u.heap.size u u') : St3 w u' o1 o2 o3 := h.mod (S := fun _ => False) (Mod.of_below k) (fun _ h => h.elim)
theorem St3.grown {w u u' : World} {o1 o2 o3 : Obj} {g : Nat} (h : St3 w u o1 o2 o3) (k : u.grownBy u' (some g)) (hg : w.heap.size + 3 ≤ g) : St3 w u' o1 o2 o3 :=
  h.mod (S := fun i => i = g) ⟨k.os, k.tape, k.output, k.size, fun i hi hn => k.block i hi (fun he => hn (by injection he))⟩ (fun i hi => by omega)
theorem setCell_size (w : World) (a : Addr) (v : Value) : (w.setCell a v).heap.size = w.heap.size := by simp [World.setCell]
theorem mod_setCell (w : World) (g i : Nat) (v : Value) : Mod w (w.setCell ⟨g, i, none⟩ v) (fun k => k = g) :=
  ⟨rfl, rfl, rfl, by rw [setCell_size]; exact Nat.le_refl _, fun k _ hn => Below.heap_setCell w ⟨g, i, none⟩ v k hn⟩
theorem St3.set3 {w u : World} {o1 o2 : Obj} {cs cs' : Array Value} {e : TypeId} (h : St3 w u o1 o2 (.cells cs e (0, 0))) (i : Nat) (v : Value) (he : cs.setIfInBounds i v = cs') : St3 w (u.setCell ⟨w.heap.size + 1 + 1, i, none⟩ v) o1 o2 (.cells cs' e (0, 0)) :=
  ⟨blk_mod h.b1 (mod_setCell _ _ _ _) (by omega), blk_mod h.b2 (mod_setCell _ _ _ _) (by omega), blk_put h.b3 i v he, Mod.below h.bel (mod_setCell _ _ _ _) (by have := h.sz; omega) (fun i hi => by omega), by rw [setCell_size]; exact h.sz⟩
theorem St3.set2 {w u : World} {o1 o3 : Obj} {cs cs' : Array Value} {e : TypeId} (h : St3 w u o1 (.cells cs e (0, 0)) o3) (i : Nat) (v : Value) (he : cs.setIfInBounds i v = cs') : St3 w (u.setCell ⟨w.heap.size + 1, i, none⟩ v) o1 (.cells cs' e (0, 0)) o3 :=
  ⟨blk_mod h.b1 (mod_setCell _ _ _ _) (by omega), blk_put h.b2 i v he, blk_mod h.b3 (mod_setCell _ _ _ _) (by omega), Mod.below h.bel (mod_setCell _ _ _ _) (by have := h.sz; omega) (fun i hi => by omega), by rw [setCell_size]; exact h.sz⟩
def zTab : Obj := .cells #[.string { data := #[] }, .slice none 0 0, .slice none 0 0, .int .i64 0, .slice none 0 0] 30 (0, 0)
def oTab (t : Tab) (v1 v2 v3 : Value) : Obj := .cells #[.string t.name, v1, v2, .int .i64 t.part, v3] 30 (0, 0)
theorem R_set {α : Type} {d : Kd α} {e : Nat} {u : World} {base : Nat} {ok : Nat → Prop} {v : Value} {xs : List α} (h : d.R e u base ok v xs) (g i : Nat) (x : Value) (hg : ¬ ok g) : d.R e (u.setCell ⟨g, i, none⟩ x) base ok v xs :=
  Kd.R_far h (fun k hk e => hg (by have e2 : k = g := e; rw [← e2]; exact hk)) x
set_option maxRecDepth 100000 in
set_option maxHeartbeats 4000000 in
theorem tabOfRef_any (t : Tab) (A1 : Option Addr) (c1 : Nat) (A2 : Option Addr) (c2 : Nat) (A3 : Option Addr) (c3 : Nat) (w : World)
    (hC1 : kCol.C w A1 t.cols.length t.cols) (hC2 : (Kd.int .i64).C w A2 t.key.length t.key) (hC3 : kIdx.C w A3 t.idx.length t.idx)
    (hz1 : t.cols.length * 32 ≤ 140737488355328) (hz2 : t.key.length * 8 ≤ 140737488355328) (hz3 : t.idx.length * 48 ≤ 140737488355328) (hz4 : ∀ x ∈ t.idx, x.columns.length * 8 ≤ 140737488355328) :
    Calls Try.prog 12 #[.agg #[.string t.name, .slice A1 t.cols.length c1, .slice A2 t.key.length c2, .int .i64 t.part, .slice A3 t.idx.length c3]] w fun e w' => ∃ v1 v2 v3, e = .returned (.agg #[.string t.name, v1, v2, .int .i64 t.part, v3]) ∧
      (kCol.R 62 w' w.heap.size (fun _ => True) v1 t.cols ∧ (Kd.int .i64).R 3 w' w.heap.size (fun _ => True) v2 t.key ∧ kIdx.R 64 w' w.heap.size (fun _ => True) v3 t.idx) ∧ Below w.heap.size w w' := by
  have HC1 := Aside0.mk hC1
  have HC2 := Aside0.mk hC2
  have HC3 := Aside0.mk hC3
  have hn3 := hC3.2.1
  have HZ4 := Lib.hid hz4
  clear hC1 hC2 hC3 hz4
  have hst := St3.start w (tabBox t A1 c1 A2 c2 A3 c3) zTab (tabBox t A1 c1 A2 c2 A3 c3)
  have hw0 : ((w.alloc (Obj.cells #[.string t.name, .slice A1 t.cols.length c1, .slice A2 t.key.length c2, .int .i64 t.part, .slice A3 t.idx.length c3] 30)).alloc (Obj.cells #[Value.string { data := #[] }, Value.slice none 0 0, Value.slice none 0 0, Value.int IntKind.i64 0, Value.slice none 0 0] 30)).alloc (Obj.cells #[.string t.name, .slice A1 t.cols.length c1, .slice A2 t.key.length c2, .int .i64 t.part, .slice A3 t.idx.length c3] 30) = ((w.alloc (tabBox t A1 c1 A2 c2 A3 c3)).alloc zTab).alloc (tabBox t A1 c1 A2 c2 A3 c3) := rfl
  obtain ⟨W, hW⟩ : ∃ W, W = ((w.alloc (tabBox t A1 c1 A2 c2 A3 c3)).alloc zTab).alloc (tabBox t A1 c1 A2 c2 A3 c3) := ⟨_, rfl⟩
  rw [← hW] at hst hw0
  have HW0 := Aside0.mk hw0
  have S0 := Aside0.mk hst
  have hWs : W.heap.size = w.heap.size + 3 := by rw [hW]; simp
  have HWS := Lib.hid hWs
  clear hW hw0 hst hWs
  go_enter Try.func12, Try.ntmps12
  go_wp2_with (first | (at_make; rw [HW0.out]; refine Kd.R_make kCol (w0 := W) W.heap.size 62 rfl rfl 26 (.tmp 9) (.tmp 9) rfl (t.cols.length : Int) rfl rfl Try.underlying26 _ 32 info62 rfl (by decide) (by omega) (⟨⟨#[]⟩, 0, false⟩ : Col) (ok := fun k => W.heap.size ≤ k) (okp := fun k => W.heap.size ≤ k) (kCol_M.2 rfl) (fun _ h => h) (Nat.le_refl _) (by omega) (by rw [Int.toNat_natCast]; omega) (Below.refl _ _) (Nat.le_refl _) ?_; intro v1 w1 ho hb hg hat; obtain ⟨B1, e1, hv1⟩ := Kd.R_slice ho; rw [List.length_replicate, Int.toNat_natCast] at hv1; subst hv1; have HR1 := Aside0.mk ho; have S1 := Aside0.mk (S0.out.below hb); clear ho hb hg hat; have q1 : w1.cell? ⟨w.heap.size + 1 + 1, 1, none⟩ = some (.slice A1 t.cols.length c1) := blk_cell S1.out.b3 1; have q2 : w1.frozen? ⟨w.heap.size + 1 + 1, 1, none⟩ = false := blk_frozen S1.out.b3 _; have q3 : w1.cell? ⟨w.heap.size, 1, none⟩ = some (.slice A1 t.cols.length c1) := blk_cell S1.out.b1 1) | ((with_reducible refine gate_copy (xs := #[.tmp 13, .tmp 15]) rfl ?_); (obtain ⟨u1, hu1⟩ : ∃ u, u = w1.setCell ⟨w.heap.size + 1 + 1, 1, none⟩ (.slice B1 t.cols.length e1) := ⟨_, rfl⟩); (rw [← hu1]); (have hS2 : St3 w u1 (tabBox t A1 c1 A2 c2 A3 c3) zTab (oTab t (.slice B1 t.cols.length e1) (.slice A2 t.key.length c2) (.slice A3 t.idx.length c3)) := by (rw [hu1]; exact S1.out.set3 1 _ rfl)); (have hR2 := R_set HR1.out (w.heap.size + 1 + 1) 1 (.slice B1 t.cols.length e1) (by (have := HWS.out; omega))); (rw [← hu1] at hR2); (clear q1 q2 q3 hu1); (refine R_copy_all kCol (Rr := fun x cs => cs = [.string x.name, .int .i64 x.type, .bool x.notNull]) (w0 := u1) W.heap.size rfl (.tmp 13) (.tmp 15) 26 26 62 rfl Try.underlying26 size62 (by decide) (.slice B1 t.cols.length e1) _ t.cols A1 t.cols.length c1 (fun k => W.heap.size ≤ k) rfl rfl hR2 (by rw [List.length_replicate, Int.toNat_natCast]) ((Kd.C_below HC1.out hS2.bel).imp_ (Below.refl _ _) (fun _ _ h => kCol_K.1 h)) (fun _ _ h _ _ => kCol_M.2 h) (Below.refl _ _) (by have := hS2.sz; have := HWS.out; omega) ?_); (intro w2 ho2 hb2 hg2); (have HR2 := Aside0.mk ho2); (have S2 := Aside0.mk (hS2.mod (S := fun k => W.heap.size ≤ k) ⟨hb2.os, hb2.tape, hb2.output, by exact hg2.size, fun i hi hn => hb2.block i (by omega)⟩ (fun i hi => by have := HWS.out; omega))); (clear ho2 hb2 hg2 hS2 hR2 HR1 S1); (have q4 : w2.cell? ⟨w.heap.size, 2, none⟩ = some (.slice A2 t.key.length c2) := blk_cell S2.out.b1 2)))
  refine (ints_any A2 c2 t.key w2 (Kd.C_below HC2.out S2.out.bel) hz2).mono ?_
  rintro e w3 ⟨v2, rfl, hR3, hb3⟩
  obtain ⟨B2, e2, hv2⟩ := Kd.R_slice hR3
  subst hv2
  have hsz2 : W.heap.size ≤ w2.heap.size := by have := S2.out.sz; have := HWS.out; omega
  have HK2 := Aside0.mk (Kd.R_mono (ok' := fun k => W.heap.size ≤ k) (Kd.R_lower (Kd.R_bound hR3) hsz2) (fun k hk => Nat.le_trans hsz2 hk.2.1))
  have HK1 := Aside0.mk (Kd.R_below HR2.out hb3)
  have S3 := Aside0.mk (S2.out.below hb3)
  clear hR3 hb3 q4 hsz2 HR2 S2
  have q1 : w3.cell? ⟨w.heap.size + 1 + 1, 2, none⟩ = some (.slice A2 t.key.length c2) := blk_cell S3.out.b3 2
  have q2 : w3.frozen? ⟨w.heap.size + 1 + 1, 2, none⟩ = false := blk_frozen S3.out.b3 _
  have q3 : w3.cell? ⟨w.heap.size, 4, none⟩ = some (.slice A3 t.idx.length c3) := blk_cell S3.out.b1 4
  go_wp2_with (at_make; (obtain ⟨u3, hu3⟩ : ∃ u, u = w3.setCell ⟨w.heap.size + 1 + 1, 2, none⟩ (.slice B2 t.key.length e2) := ⟨_, rfl⟩); (rw [← hu3]); (have hS3 : St3 w u3 (tabBox t A1 c1 A2 c2 A3 c3) zTab (oTab t (.slice B1 t.cols.length e1) (.slice B2 t.key.length e2) (.slice A3 t.idx.length c3)) := by (rw [hu3]; exact S3.out.set3 2 _ rfl)); (have hK1 := R_set HK1.out (w.heap.size + 1 + 1) 2 (.slice B2 t.key.length e2) (by (have := HWS.out; omega))); (have hK2 := R_set HK2.out (w.heap.size + 1 + 1) 2 (.slice B2 t.key.length e2) (by (have := HWS.out; omega))); (rw [← hu3] at hK1 hK2); (clear q1 q2 q3 hu3); (have hle : W.heap.size ≤ u3.heap.size := by (have := hS3.sz; have := HWS.out; omega)); (refine Kd.R_make kIdx (w0 := u3) u3.heap.size 64 rfl rfl 28 (.tmp 23) (.tmp 23) rfl (t.idx.length : Int) rfl rfl Try.underlying28 _ 48 info64 rfl (by decide) (by omega) (⟨⟨#[]⟩, [], false⟩ : Idx) (ok := fun k => u3.heap.size ≤ k) (okp := fun k => u3.heap.size ≤ k) (kIdx_M.2 ⟨_, rfl, Kd.R_nil _ _ _ _ _⟩) (fun _ h => h) (Nat.le_refl _) (by omega) (by rw [Int.toNat_natCast]; omega) (Below.refl _ _) (Nat.le_refl _) ?_); (intro v1 w4 ho hb hg hat); (obtain ⟨B3, e3, hv1⟩ := Kd.R_slice ho); (rw [List.length_replicate, Int.toNat_natCast] at hv1); (subst hv1); (have HK3 := Aside0.mk ho); (have HKK1 := Aside0.mk (Kd.R_below (Kd.R_bound hK1) hb)); (have HKK2 := Aside0.mk (Kd.R_below (Kd.R_bound hK2) hb)); (have S4 := Aside0.mk (hS3.below hb)); (have HK3SZ := Lib.hid hb.size); (have HLE := Lib.hid hle); (clear ho hb hg hat hS3 hK1 hK2 hle HK1 HK2 S3); (have q1 : w4.cell? ⟨w.heap.size + 1 + 1, 4, none⟩ = some (.slice A3 t.idx.length c3) := blk_cell S4.out.b3 4); (have q2 : w4.frozen? ⟨w.heap.size + 1 + 1, 4, none⟩ = false := blk_frozen S4.out.b3 _))
  obtain ⟨u4, hu4⟩ : ∃ u, u = w4.setCell ⟨w.heap.size + 1 + 1, 4, none⟩ (.slice B3 t.idx.length e3) := ⟨_, rfl⟩
  rw [← hu4]
  have hS4 : St3 w u4 (tabBox t A1 c1 A2 c2 A3 c3) zTab (oTab t (.slice B1 t.cols.length e1) (.slice B2 t.key.length e2) (.slice B3 t.idx.length e3)) := by rw [hu4]; exact S4.out.set3 4 _ rfl
  have hk3 := R_set HK3.out (w.heap.size + 1 + 1) 4 (.slice B3 t.idx.length e3) (by have := HLE.out; have := HWS.out; omega)
  have hk1 := R_set HKK1.out (w.heap.size + 1 + 1) 4 (.slice B3 t.idx.length e3) (fun h => by have := h.1; have := HWS.out; omega)
  have hk2 := R_set HKK2.out (w.heap.size + 1 + 1) 4 (.slice B3 t.idx.length e3) (fun h => by have := h.1; have := HWS.out; omega)
  rw [← hu4] at hk1 hk2 hk3
  have hu4s : u3.heap.size ≤ u4.heap.size := by
    have h1 := (Kd.R_reads hk3)
    rw [hu4, setCell_size]
    exact HK3SZ.out
  obtain ⟨B, hBB⟩ : ∃ B, B = u3.heap.size := ⟨_, rfl⟩
  rw [← hBB] at hk3 hu4s
  have HN1 := Aside0.mk (Kd.R_mono (ok' := fun k => W.heap.size ≤ k ∧ k < B) hk1 (fun k hk => ⟨hk.1, by rw [hBB]; exact hk.2.2.1⟩))
  have HN2 := Aside0.mk (Kd.R_mono (ok' := fun k => W.heap.size ≤ k ∧ k < B) hk2 (fun k hk => ⟨hk.1, by rw [hBB]; exact hk.2.2.1⟩))
  have HN3 := Aside0.mk hk3
  have S5 := Aside0.mk hS4
  have hWB : W.heap.size ≤ B := by rw [hBB]; exact HLE.out
  have HWB := Lib.hid hWB
  have HUB := Lib.hid hu4s
  clear hk1 hk2 hk3 hS4 hu4 hBB hWB hu4s HK3 HKK1 HKK2 S4 q1 q2 HK3SZ HLE
  go_loopg [4] t.idx.length (fun gn i wr => ∃ k : Nat, i = .int .i64 k ∧ Aside0 (k + gn = t.idx.length) ∧ Aside0 (Mod u4 wr (fun k => B ≤ k)) ∧ Aside0 (kIdx.R 64 wr B (fun k => B ≤ k) (.slice B3 t.idx.length e3) (t.idx.take k ++ List.replicate (t.idx.length - k) (⟨⟨#[]⟩, [], false⟩ : Idx))))
  case atStart => exact ⟨0, rfl, ⟨by omega⟩, ⟨Mod.refl _ _⟩, ⟨by simpa using HN3.out⟩⟩
  case round =>
    obtain ⟨k, rfl, ⟨hgn⟩, hM, hR⟩ := hrel
    have HGN := Lib.hid hgn
    clear hgn
    have hSr := S5.out.mod hM.out (fun i hi => by have := HWB.out; have := HWS.out; omega)
    have SR := Aside0.mk hSr
    have f1 : wr.cell? ⟨w.heap.size, 4, none⟩ = some (.slice A3 t.idx.length c3) := blk_cell hSr.b1 4
    have f3 : wr.cell? ⟨w.heap.size + 1 + 1, 0, none⟩ = some (.string t.name) := blk_cell hSr.b3 0
    by_cases hk : k < t.idx.length
    · obtain ⟨ad, x, Ax, cx, rfl, hx, hmem0, hts0, q0, q1, q2, hlx, hCx⟩ := idx_at HC3.out hSr.bel k hk
      have hzx := HZ4.out x hmem0
      have hlk : (t.idx.take k ++ List.replicate (t.idx.length - k) (⟨⟨#[]⟩, [], false⟩ : Idx)).length = t.idx.length := by rw [List.length_append, List.length_take, List.length_replicate]; omega
      obtain ⟨gi, ci, hfe, hgB, hgl, hgc⟩ := Kd.R_form hR.out (by rw [hlk]; omega)
      rw [hlk] at hfe
      obtain ⟨rfl, -, rfl⟩ : B3 = some ⟨gi, 0, none⟩ ∧ True ∧ e3 = ci := by injection hfe with h1 h2 h3; exact ⟨h1, trivial, h3⟩
      obtain ⟨-, hle3, hCr⟩ := Kd.R_reads' hR.out
      obtain ⟨adr, cold, hadr, hcl, hcK, hcc⟩ := C_at hCr k (by rw [hlk]; exact hk) default
      obtain rfl : adr = ⟨gi, 0, none⟩ := by injection hadr with h; exact h.symm
      have HCC := Aside0.mk hcc
      have HCL := Lib.hid hcl
      have HLK := Lib.hid hlk
      clear hfe hCr hadr hcl hcc hcK hlk hgc
      have HTS := Lib.hid hts0
      have HCX := Aside0.mk (Kd.C_below hCx hSr.bel)
      have hsz : B ≤ wr.heap.size := Nat.le_trans HUB.out hM.out.size
      clear hx hmem0 hts0 hCx hSr f3
      have p0 : (0 : Int) ≤ k := by omega
      have p1 : (k : Int) < t.idx.length := by omega
      go_wp2_with fail
      obtain ⟨bx, hbx⟩ : ∃ bx, bx = wr.heap.size := ⟨_, rfl⟩
      obtain ⟨wa, hwa⟩ : ∃ wa, wa = wr.alloc (Obj.cells #[.string x.name, .slice Ax x.columns.length cx, .bool x.unique] 64) := ⟨_, rfl⟩
      have hA0 : Below wr.heap.size wr wa := by rw [hwa]; exact below_alloc (Below.refl _ _) _
      have hA1 : wa.heap[bx]? = some (Obj.cells #[.string x.name, .slice Ax x.columns.length cx, .bool x.unique] 64 (0, 0)) := by rw [hwa, hbx]; exact blk_alloc _ _
      rw [← hwa, ← hbx]
      have HBX := Lib.hid hbx
      have hbx1 : wr.heap.size ≤ bx := Nat.le_of_eq hbx.symm
      have hbsz : wa.heap.size = bx + 1 := by rw [hwa, hbx]; simp
      have HBSZ := Lib.hid hbsz
      clear hbx hwa hbsz
      refine (ints_any Ax cx x.columns wa (Kd.C_below HCX.out hA0) hzx).mono ?_
      rintro e w5 ⟨v5, rfl, hR5, hb5⟩
      obtain ⟨X1, y1, hv5⟩ := Kd.R_slice hR5
      subst hv5
      have hX5 : w5.heap[bx]? = some (Obj.cells #[.string x.name, .slice Ax x.columns.length cx, .bool x.unique] 64 (0, 0)) := blk_below hA1 hb5
      have hB5 : Below wr.heap.size wr w5 := below_then hA0 hA0.size hb5
      have hS5r : St3 w w5 _ _ _ := SR.out.below hB5
      have hlt : bx < wa.heap.size := blk_lt hA1
      have g1 : w5.cell? ⟨bx, 0, none⟩ = some (.string x.name) := blk_cell hX5 0
      have g2 : w5.cell? ⟨bx, 1, none⟩ = some (.slice Ax x.columns.length cx) := blk_cell hX5 1
      have g3 : w5.cell? ⟨bx, 2, none⟩ = some (.bool x.unique) := blk_cell hX5 2
      have g4 : w5.frozen? ⟨bx, 1, none⟩ = false := blk_frozen hX5 _
      have g5 : w5.cell? ⟨w.heap.size + 1 + 1, 4, none⟩ = some (.slice (some ⟨gi, 0, none⟩) t.idx.length e3) := blk_cell hS5r.b3 4
      have g6 : ¬ bx = w.heap.size + 1 + 1 := by have := SR.out.sz; omega
      have g7 : ¬ w.heap.size + 1 + 1 = bx := fun h => g6 h.symm
      go_wp2_with ((with_reducible refine gate_store (p := 46) (v := .tmp 45) rfl ?_); (obtain ⟨u5, hu5⟩ : ∃ u, u = w5.setCell ⟨bx, 1, none⟩ (.slice X1 x.columns.length y1) := ⟨_, rfl⟩); (rw [← hu5]); (have hm5 : Mod wr u5 (fun k => False) := by (rw [hu5]; exact ⟨(mod_setCell w5 bx 1 (.slice X1 x.columns.length y1)).os.trans hB5.os, (mod_setCell w5 bx 1 (.slice X1 x.columns.length y1)).tape.trans hB5.tape, (mod_setCell w5 bx 1 (.slice X1 x.columns.length y1)).output.trans hB5.output, (by rw [setCell_size]; exact hB5.size), fun i hi _ => ((mod_setCell w5 bx 1 (.slice X1 x.columns.length y1)).block i (by have := hB5.size; omega) (by omega)).trans (hB5.block i hi)⟩)); (have hRu : kIdx.R 64 u5 B (fun k => B ≤ k) (.slice (some ⟨gi, 0, none⟩) t.idx.length e3) (t.idx.take k ++ List.replicate (t.idx.length - k) (⟨⟨#[]⟩, [], false⟩ : Idx)) := Kd.R_step hR.out (fun i _ hi => hm5.block i hi (fun h => h))); (have hM5 : (Kd.int .i64).R 3 u5 B (fun k => wa.heap.size ≤ k) (.slice X1 x.columns.length y1) x.columns := by (rw [hu5]; exact R_set (Kd.R_mono (Kd.R_lower (Kd.R_bound hR5) (by have := HBSZ.out; omega)) (fun k hk => hk.2.1)) bx 1 _ (by have := HBSZ.out; omega))); (go_loud (refine Kd.R_store kIdx (w0 := u5) B rfl rfl 64 (.tmp 46) (.tmp 45) rfl 64 (k : Int) 0 (t.idx.take k ++ List.replicate (t.idx.length - k) (⟨⟨#[]⟩, [], false⟩ : Idx)) x (.agg #[.string x.name, .slice X1 x.columns.length y1, .bool x.unique]) [.string x.name, .slice X1 x.columns.length y1, .bool x.unique] cold (fun k => B ≤ k) (fun k => wa.heap.size ≤ k) rfl rfl rfl rfl size64 ?aS hRu (by omega) (by omega) HCL.out ?aC (Nat.le_refl 3) ?aM ?aK (Below.refl _ _) ?_)); (case aS => (intro q hq; simp only [List.mem_cons, List.not_mem_nil, or_false] at hq; rcases hq with rfl | rfl | rfl <;> rfl)); (case aC => (intro j u hj; have h1 := HCC.out j u hj; rw [add_plain] at h1; rw [Int.toNat_natCast]; exact (cell_blk _ _ gi _ (hm5.block gi hgl (fun h => h))).trans h1)); (case aM => (have hd : cold.drop (0 + [Value.string x.name, Value.slice X1 x.columns.length y1, Value.bool x.unique].length) = [] := List.drop_of_length_le (Nat.le_of_eq HCL.out); rw [List.take_zero, List.nil_append, hd, List.append_nil]; exact kIdx_M.2 ⟨_, rfl, hM5⟩)); (case aK => (intro i hi; have := HBSZ.out; exact ⟨by omega, by omega⟩)); intro w6 hR6 hB6 hg6; (have hM6 := Aside0.mk hR6); (have hMod6 : Aside0 (Mod u4 w6 (fun k => B ≤ k)) := ⟨hM.out.trans ((hm5.mono (fun _ h => h.elim)).trans ⟨hg6.os, hg6.tape, hg6.output, hg6.size, fun i hi hn => hg6.block i hi (fun he => hn (by injection he with he; omega))⟩)⟩); clear hR6 hB6 hg6 hRu hM5 hm5 hu5)
      go_roundg (t.idx.length - (k + 1))
      case measure => have := HGN.out; omega
      case rel => exact ⟨k + 1, by go_num, ⟨by have := HGN.out; omega⟩, hMod6, ⟨by
        have h1 := hM6.out
        rw [Int.toNat_natCast] at h1
        have h2 : (t.idx.take k ++ List.replicate (t.idx.length - k) (⟨⟨#[]⟩, [], false⟩ : Idx)).set k x = t.idx.take (k + 1) ++ List.replicate (t.idx.length - (k + 1)) (⟨⟨#[]⟩, [], false⟩ : Idx) := by
          rw [HTS.out, show t.idx.length - k = (t.idx.length - (k + 1)) + 1 from by omega, List.replicate_succ, List.set_append_right _ _ (by rw [List.length_take]; omega), List.length_take, show k - min k t.idx.length = 0 from by omega]
          simp
        rw [h2] at h1
        exact h1⟩⟩
    · have hxs : t.idx.take k ++ List.replicate (t.idx.length - k) (⟨⟨#[]⟩, [], false⟩ : Idx) = t.idx := by rw [List.take_of_length_le (by omega), show t.idx.length - k = 0 from by omega]; simp
      rw [hxs] at hR
      have HM1 := Aside0.mk (Kd.R_step HN1.out (fun i hi hl => hM.out.block i hl (by omega)))
      have HM2 := Aside0.mk (Kd.R_step HN2.out (fun i hi hl => hM.out.block i hl (by omega)))
      have y1 : wr.cell? ⟨w.heap.size + 1 + 1, 1, none⟩ = some (.slice B1 t.cols.length e1) := blk_cell hSr.b3 1
      have y2 : wr.cell? ⟨w.heap.size + 1 + 1, 2, none⟩ = some (.slice B2 t.key.length e2) := blk_cell hSr.b3 2
      have y3 : wr.cell? ⟨w.heap.size + 1 + 1, 3, none⟩ = some (.int .i64 t.part) := blk_cell hSr.b3 3
      have y4 : wr.cell? ⟨w.heap.size + 1 + 1, 4, none⟩ = some (.slice B3 t.idx.length e3) := blk_cell hSr.b3 4
      have z0 : wr.cell? ⟨w.heap.size + 1, 0, none⟩ = some (.string ⟨#[]⟩) := blk_cell hSr.b2 0
      have z1 : wr.cell? ⟨w.heap.size + 1, 1, none⟩ = some (.slice none 0 0) := blk_cell hSr.b2 1
      have z2 : wr.cell? ⟨w.heap.size + 1, 2, none⟩ = some (.slice none 0 0) := blk_cell hSr.b2 2
      have z3 : wr.cell? ⟨w.heap.size + 1, 3, none⟩ = some (.int .i64 0) := blk_cell hSr.b2 3
      have z4 : wr.cell? ⟨w.heap.size + 1, 4, none⟩ = some (.slice none 0 0) := blk_cell hSr.b2 4
      have k0 : ∀ i, wr.frozen? ⟨w.heap.size + 1, i, none⟩ = false := fun i => blk_frozen hSr.b2 i
      have hE := ((((hSr.set2 0 (.string t.name) rfl).set2 1 (.slice B1 t.cols.length e1) rfl).set2 2 (.slice B2 t.key.length e2) rfl).set2 3 (.int .i64 t.part) rfl).set2 4 (.slice B3 t.idx.length e3) rfl
      have HE := Aside0.mk hE
      have hm := ((((mod_setCell wr (w.heap.size + 1) 0 (.string t.name)).trans (mod_setCell _ _ 1 (.slice B1 t.cols.length e1))).trans (mod_setCell _ _ 2 (.slice B2 t.key.length e2))).trans (mod_setCell _ _ 3 (.int .i64 t.part))).trans (mod_setCell _ _ 4 (.slice B3 t.idx.length e3))
      have HM := Aside0.mk hm
      clear hxs hSr hE hm
      go_wp2_with fail
      refine bodyPost_ret (results_cell_row rfl _ _ (w.heap.size + 1) 30 #[.string t.name, .slice B1 t.cols.length e1, .slice B2 t.key.length e2, .int .i64 t.part, .slice B3 t.idx.length e3] (0, 0) _ rfl HE.out.b2 Try.underlying30 rfl (by kernel_rfl)) rfl ?_
      have hws := HWS.out
      have hwb := HWB.out
      exact ⟨_, _, _, rfl, ⟨Kd.R_mono (Kd.R_lower (Kd.R_step HM1.out (fun i hi hl => HM.out.block i hl (by have := hi.1; omega))) (by omega)) (fun _ _ => trivial), Kd.R_mono (Kd.R_lower (Kd.R_step HM2.out (fun i hi hl => HM.out.block i hl (by have := hi.1; omega))) (by omega)) (fun _ _ => trivial), Kd.R_mono (Kd.R_lower (Kd.R_step hR.out (fun i hi hl => HM.out.block i hl (by omega))) (by omega)) (fun _ _ => trivial)⟩, HE.out.bel⟩
end Go.Proofs.Ytcmgdieeclninaa
