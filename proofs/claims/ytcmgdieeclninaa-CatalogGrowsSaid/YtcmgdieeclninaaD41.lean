/- Layer 8: the walks of the reader's small closures. -/
import Derived.Test.YtcmgdieeclninaaD40
set_option linter.unusedVariables false
set_option linter.unusedSimpArgs false
namespace Go.Proofs.Ytcmgdieeclninaa
open Go.RowKit Go.Proofs.YtcmgdieeclninaaW.PrintWords Go.Proofs.YtcmgdieeclninaaW.PrintLast
/-- A reading closure's walk: the reader, the captured box and pointer, the row, what has turned. -/
structure CJ {α : Type} (d : Kd α) (e rb tb qb T : Nat) (wS w : World) (cs : Array Value) (v : Value) (xs : List α) (s : ByteArray) (b : Bool) : Prop where
  rs : RS w rb s b
  tbx : w.heap[tb]? = some (.cells cs T (0, 0))
  qbx : w.heap[qb]? = some (.cells #[.pointer (some ⟨rb, 0, none⟩)] 79 (0, 0))
  row : d.R e w wS.heap.size (fun q => wS.heap.size ≤ q) v xs
  md : Mod wS w (fun i => i = rb ∨ i = tb)
  lts : rb < wS.heap.size ∧ tb < wS.heap.size ∧ qb < wS.heap.size ∧ rb ≠ tb ∧ rb ≠ qb ∧ tb ≠ qb
theorem CJ.read {α : Type} {d : Kd α} {e rb tb qb T : Nat} {wS w w' : World} {cs : Array Value} {v : Value} {xs : List α} {s s' : ByteArray} {b b' : Bool} (h : CJ d e rb tb qb T wS w cs v xs s b) (hr : RS w' rb s' b') (hm : Mod w w' (fun i => i = rb)) : CJ d e rb tb qb T wS w' cs v xs s' b' :=
  ⟨hr, blk_mod h.tbx hm (fun he => h.lts.2.2.2.1 he.symm), blk_mod h.qbx hm (fun he => h.lts.2.2.2.2.1 he.symm), Kd.R_step h.row (fun q hq hl => hm.block q hl (by have := h.lts.1; omega)), h.md.trans (hm.mono (fun i hi => .inl hi)), h.lts⟩
theorem CJ.below {α : Type} {d : Kd α} {e rb tb qb T : Nat} {wS w w' : World} {cs : Array Value} {v : Value} {xs : List α} {s : ByteArray} {b : Bool} (h : CJ d e rb tb qb T wS w cs v xs s b) (hb : Below w.heap.size w w') : CJ d e rb tb qb T wS w' cs v xs s b := h.read (h.rs.below hb) (Mod.of_below hb)
theorem CJ.appended {α : Type} {d : Kd α} {e rb tb qb T : Nat} {wS w w' : World} {cs cs' : Array Value} {v v' : Value} {xs xs' : List α} {s : ByteArray} {b : Bool} (h : CJ d e rb tb qb T wS w cs v xs s b) (hr : d.R e w' wS.heap.size (fun q => wS.heap.size ≤ q) v' xs') (hg : w.grownBy w' v.ownBlock) (j : Nat) (hj : cs.setIfInBounds j v' = cs') :
    CJ d e rb tb qb T wS (w'.setCell ⟨tb, j, none⟩ v') cs' v' xs' s b ∧ w'.heap[tb]? = some (.cells cs T (0, 0)) := by
  have hm : Mod w w' (fun i => wS.heap.size ≤ i) := ⟨hg.os, hg.tape, hg.output, hg.size, fun i hi hn => hg.block i hi (fun he => hn (h.row.1 i he.symm))⟩
  have ht : w'.heap[tb]? = some (.cells cs T (0, 0)) := blk_mod h.tbx hm (by have := h.lts.2.1; omega)
  have hms := mod_setCell w' tb j v'
  refine ⟨⟨?_, blk_put ht j v' hj, ?_, ?_, ?_, h.lts⟩, ht⟩
  · exact blk_mod (blk_mod h.rs hm (by have := h.lts.1; omega)) hms h.lts.2.2.2.1
  · exact blk_mod (blk_mod h.qbx hm (by have := h.lts.2.2.1; omega)) hms (fun he => h.lts.2.2.2.2.2 he.symm)
  · exact Kd.R_step hr (fun q hq hl => hms.block q hl (by have := h.lts.2.1; omega))
  · exact (h.md.then_new hm (fun i hi hq => by omega)).trans (hms.mono (fun i hi => .inr hi))
/-- What stands behind k rounds. -/
def MI {α : Type} (d : Kd α) (e : Nat) (enc : α → List Int) (ok : α → Prop) (rb tb qb T : Nat) (mk : Value → Array Value) (wS : World) (l0 : List Int) (b0 : Bool) (k : Nat) (w1 : World) (s1 : ByteArray) (b1 : Bool) : Prop :=
  ∃ (v : Value) (xs : List α), xs.length = k ∧ LRd enc ok l0 b0 xs (bytesOf s1) b1 ∧ CJ d e rb tb qb T wS w1 (mk v) v xs s1 b1 ∧ s1.size ≤ 140737488355328
theorem MI.step {α : Type} {d : Kd α} {e : Nat} {enc : α → List Int} {ok : α → Prop} {rb tb qb T : Nat} {mk : Value → Array Value} {wS w2 : World} {l0 : List Int} {b0 : Bool} {k : Nat} {s1 s2 : ByteArray} {b1 b2 : Bool} {v2 : Value} {xs : List α} {x : α} {cs : Array Value}
    (hk : xs.length = k) (hL : LRd enc ok l0 b0 xs (bytesOf s1) b1) (hrd : Rd enc ok (bytesOf s1) b1 x (bytesOf s2) b2) (hC : CJ d e rb tb qb T wS w2 cs v2 (xs ++ [x]) s2 b2) (hcs : cs = mk v2) (hs : s2.size ≤ 140737488355328) : ∃ s b, RS w2 rb s b ∧ MI d e enc ok rb tb qb T mk wS l0 b0 (k + 1) w2 s b :=
  ⟨s2, b2, hC.rs, v2, xs ++ [x], by rw [List.length_append, hk]; rfl, hL.step hrd, hcs ▸ hC, hs⟩
/-! ### what is right has these bounds -/
def okL (l : List Int) : Prop := l.length ≤ 8 ∧ ∀ n ∈ l, okZ n
def okC (c : Col) : Prop := okT c.name ∧ okZ c.type
def okI (x : Idx) : Prop := okT x.name ∧ okL x.columns
def okP (p : Prm) : Prop := okT p.name ∧ okZ p.type
def okTab (t : Tab) : Prop := okT t.name ∧ (t.cols.length ≤ 16 ∧ ∀ c ∈ t.cols, okC c) ∧ okL t.key ∧ okZ t.part ∧ (t.idx.length ≤ 4 ∧ ∀ x ∈ t.idx, okI x)
def okPrc (p : Prc) : Prop := okT p.name ∧ (p.params.length ≤ 8 ∧ ∀ c ∈ p.params, okP c) ∧ (p.body.length ≤ 8 ∧ ∀ c ∈ p.body, okT c) ∧ okZ p.rows ∧ okZ p.bytes
def okCat (c : Cat) : Prop := (c.tables.length ≤ 8 ∧ ∀ t ∈ c.tables, okTab t) ∧ (c.procs.length ≤ 16 ∧ ∀ p ∈ c.procs, okPrc p)
def vInts (base : Nat) (w : World) (v : Value) (l : List Int) : Prop := (Kd.int .i64).R 3 w base (fun _ => True) v l
def vTab (base : Nat) (w : World) (v : Value) (t : Tab) : Prop := ∃ v1 v2 v3, v = .agg #[.string t.name, v1, v2, .int .i64 t.part, v3] ∧ kCol.R 62 w base (fun _ => True) v1 t.cols ∧ (Kd.int .i64).R 3 w base (fun _ => True) v2 t.key ∧ kIdx.R 64 w base (fun _ => True) v3 t.idx
def vPrc (base : Nat) (w : World) (v : Value) (p : Prc) : Prop := ∃ v1 v2, v = .agg #[.string p.name, v1, v2, .int .i64 p.rows, .int .i64 p.bytes] ∧ kPrm.R 66 w base (fun _ => True) v1 p.params ∧ Kd.string.R 9 w base (fun _ => True) v2 p.body
set_option maxRecDepth 100000 in
set_option maxHeartbeats 4000000 in
theorem cl100_any (rb tb qb : Nat) (wS : World) (l0 : List Int) (b0 : Bool) (k : Nat) (w1 : World) (s1 : ByteArray) (hk : k < 268435456) (hI : MI (Kd.int .i64) 3 wZ okZ rb tb qb 27 (fun v => #[v]) wS l0 b0 k w1 s1 false) (hRS : RS w1 rb s1 false) :
    Calls Try.prog 100 #[.pointer (some ⟨tb, 0, none⟩), .pointer (some ⟨qb, 0, none⟩)] w1 (fun e w2 => e = .returned (.tuple #[]) ∧ ∃ s2 b2, RS w2 rb s2 b2 ∧ MI (Kd.int .i64) 3 wZ okZ rb tb qb 27 (fun v => #[v]) wS l0 b0 (k + 1) w2 s2 b2) := by
  obtain ⟨v, xs, hxk, hL, hC, hs⟩ := hI
  obtain ⟨V, vc, hv⟩ := Kd.R_slice hC.row
  subst hv
  have hC1 := hC.read hRS (Mod.refl _ _)
  have C1 := Aside0.mk (hC1.below (below_drew (Below.refl _ _)))
  have HL := Lib.hid hL
  have HXK := Lib.hid hxk
  have hxl : xs.length < 268435456 := by omega
  clear hC hC1 hL hRS hxk
  have q0 : w1.drew.cell? ⟨tb, 0, none⟩ = some (.slice V xs.length vc) := blk_cell C1.out.tbx 0
  have q1 : w1.drew.cell? ⟨qb, 0, none⟩ = some (.pointer (some ⟨rb, 0, none⟩)) := blk_cell C1.out.qbx 0
  go_enter Try.func100, Try.ntmps100
  go_wp2_with fail
  refine start_ (n := 6) (S := fun w' => w'.cell? ⟨tb, 0, none⟩ = some (.slice V xs.length vc) ∧ w'.cell? ⟨qb, 0, none⟩ = some (.pointer (some ⟨rb, 0, none⟩))) (ds := [5]) #[false, false, false, false, false, false] (by kernel_rfl) rfl rfl ⟨q0, q1⟩ (fun hHeld => ?_)
  refine take_ (i := 0) (N := some 2) (v := ?_) (a' := ?_) #[true, false, false, false, false, false] rfl rfl (by kernel_rfl) (fun _ _ _ h => h) (Or.inl ⟨by rfl, ?_⟩) hHeld ?_ ?_
  rotate_left
  · rintro w' ⟨s0, s1⟩
    go_simp
    with_reducible rfl
  rotate_left
  · simp only [Act.put, List.setIfInBounds_toArray, List.set_cons_zero, List.set_cons_succ, i64_w, i32_w]
    rfl
  refine take_ (i := 1) (N := some 3) (v := ?_) (a' := ?_) #[true, true, false, false, false, false] rfl rfl (by kernel_rfl) (fun _ _ _ h => h) (Or.inl ⟨by rfl, ?_⟩) hHeld ?_ ?_
  rotate_left
  · rintro w' ⟨s0, s1⟩
    go_simp
    with_reducible rfl
  rotate_left
  · simp only [Act.put, List.setIfInBounds_toArray, List.set_cons_zero, List.set_cons_succ, i64_w, i32_w]
    rfl
  refine one_ (i := 2) (N := some 4) #[true, true, true, false, false, false] rfl rfl (by kernel_rfl) (by decide) (fun K hK => ?_)
  refine goes_ Try.func85 (by kernel_rfl) rfl #[.pointer (some ⟨rb, 0, none⟩)] (by rfl) rfl rfl (by simp only [List.map_toArray, List.map_cons, List.map_nil]; rfl) ?_
  with_reducible refine (rint_any rb _ _ w1.drew C1.out.rs (by omega)).mono ?_
  rintro e w2 ⟨u2, x, s2, b2, rfl, ⟨rfl, hv2⟩, hR2, hM2, hsz2, hrd2⟩
  refine ⟨_, rfl, ?_⟩
  have C2 := Aside0.mk (C1.out.read hR2 hM2)
  have RD2 := Lib.hid hrd2
  have hz2 : s2.size ≤ 140737488355328 := by omega
  clear hR2 hM2 hrd2 hsz2
  refine hK.out _ _ ⟨blk_cell C2.out.tbx 0, blk_cell C2.out.qbx 0⟩ (fun hHeld => ?_)
  clear hK K
  refine norm_ (a' := ?_) ?_ ?_
  rotate_left
  · show Act.put _ (some 4) _ = _
    simp only [Act.put, List.setIfInBounds_toArray, List.set_cons_zero, List.set_cons_succ, i64_w, i32_w]
    rfl
  refine one_ (i := 3) (N := some 5) #[true, true, true, true, false, false] rfl rfl (by kernel_rfl) (by decide) (fun K hK => ?_)
  refine value_ (w1 := ?_) (v := ?_) (by rfl) rfl ?_ ?_
  rotate_left 2
  · go_simp
    constructor
    · rfl
    · rfl
  have C6 := Aside0.mk (C2.out.below (below_alloc (Below.refl _ _) (Obj.cells #[.int .i64 x] 3)))
  refine hK.out _ _ ⟨blk_cell C6.out.tbx 0, blk_cell C6.out.qbx 0⟩ (fun hHeld => ?_)
  clear hK K
  refine norm_ (a' := ?_) ?_ ?_
  rotate_left
  · show Act.put _ (some 5) _ = _
    simp only [Act.put, List.setIfInBounds_toArray, List.set_cons_zero, List.set_cons_succ, i64_w, i32_w]
    rfl
  refine one_ (i := 4) (N := some 6) #[true, true, true, true, true, false] rfl rfl (by kernel_rfl) (by decide) (fun K hK => ?_)
  refine Kd.R_append_step (Kd.int .i64) (w0 := w2) wS.heap.size (by rfl) (.tmp 2) (.tmp 5) 27 3 _ 8 rfl Try.underlying27 info3b rfl (by decide) (by omega) _ xs x [.int .i64 x] (fun q => wS.heap.size ≤ q) (fun _ => False) (by rfl) (by rfl) ?aP ?aK ?aF ?aO ?aB ?aS ?aL ?_
  case aP => exact rfl
  case aK => exact fun _ hk => hk.elim
  case aF => exact fun i hi => Nat.le_trans C2.out.md.size hi
  case aO => exact C2.out.row
  case aB => exact Below.refl _ _
  case aS => exact C2.out.md.size
  case aL => omega
  intro v7 w7 ho7 hb7 hg7 hat7
  obtain ⟨V7, vc7, hv7⟩ := Kd.R_slice ho7
  rw [List.length_append, List.length_singleton] at hv7
  subst hv7
  obtain ⟨hC7, hT7⟩ := C2.out.appended ho7 hg7 0 (cs' := #[(.slice V7 (xs.length + 1) vc7)]) rfl
  have C7 := Aside0.mk hC7
  have T7 := Aside0.mk hT7
  have hQ7 : w7.heap[qb]? = some (.cells #[.pointer (some ⟨rb, 0, none⟩)] 79 (0, 0)) := by have h := C2.out.qbx; rw [hg7.block qb (blk_lt h) (fun he => by have h1 := C2.out.row.1 qb he.symm; have h2 := C2.out.lts.2.2.1; omega)]; exact h
  have Q7 := Aside0.mk hQ7
  clear ho7 hb7 hg7 hat7 hC7 hT7 hQ7
  refine hK.out _ _ ⟨blk_cell T7.out 0, blk_cell Q7.out 0⟩ (fun hHeld => ?_)
  clear hK K
  refine norm_ (a' := ?_) ?_ ?_
  rotate_left
  · show Act.put _ (some 6) _ = _
    simp only [Act.put, List.setIfInBounds_toArray, List.set_cons_zero, List.set_cons_succ, i64_w, i32_w]
    rfl
  refine last_ (i := 5) (N := none) #[true, true, true, true, true, true] rfl rfl (by kernel_rfl) (by decide) (fun K hK => ?_)
  have z1 := blk_cell T7.out 0
  have z2 := blk_frozen T7.out 0
  refine skip_ (w1 := ?_) (by rfl) rfl ?_ ?_
  rotate_left
  · go_simp
    rfl
  refine hK.out _ _ ?_
  clear hK K
  refine done_ (by kernel_rfl) ?_
  clear z1 z2 hHeld q0 q1
  go_wp2_with fail
  go_end0
  exact ⟨rfl, MI.step HXK.out HL.out (RD2.out) C7.out rfl (by omega)⟩
set_option maxRecDepth 100000 in
set_option maxHeartbeats 4000000 in
theorem cl87_any (rb tb qb : Nat) (nm : ByteArray) (wS : World) (l0 : List Int) (b0 : Bool) (k : Nat) (w1 : World) (s1 : ByteArray) (hk : k < 268435456) (hI : MI kCol 62 wC okC rb tb qb 30 (fun v => #[.string nm, v, .slice none 0 0, .int .i64 0, .slice none 0 0]) wS l0 b0 k w1 s1 false) (hRS : RS w1 rb s1 false) :
    Calls Try.prog 87 #[.pointer (some ⟨tb, 0, none⟩), .pointer (some ⟨qb, 0, none⟩)] w1 (fun e w2 => e = .returned (.tuple #[]) ∧ ∃ s2 b2, RS w2 rb s2 b2 ∧ MI kCol 62 wC okC rb tb qb 30 (fun v => #[.string nm, v, .slice none 0 0, .int .i64 0, .slice none 0 0]) wS l0 b0 (k + 1) w2 s2 b2) := by
  obtain ⟨v, xs, hxk, hL, hC, hs⟩ := hI
  obtain ⟨V, vc, hv⟩ := Kd.R_slice hC.row
  subst hv
  have hC1 := hC.read hRS (Mod.refl _ _)
  have C1 := Aside0.mk (hC1.below (below_drew (Below.refl _ _)))
  have HL := Lib.hid hL
  have HXK := Lib.hid hxk
  have hxl : xs.length < 268435456 := by omega
  clear hC hC1 hL hRS hxk
  have q0 : w1.drew.cell? ⟨tb, 1, none⟩ = some (.slice V xs.length vc) := blk_cell C1.out.tbx 1
  have q1 : w1.drew.cell? ⟨qb, 0, none⟩ = some (.pointer (some ⟨rb, 0, none⟩)) := blk_cell C1.out.qbx 0
  go_enter Try.func87, Try.ntmps87
  go_wp2_with fail
  refine start_ (n := 13) (S := fun w' => w'.cell? ⟨tb, 1, none⟩ = some (.slice V xs.length vc) ∧ w'.cell? ⟨qb, 0, none⟩ = some (.pointer (some ⟨rb, 0, none⟩))) (ds := [12]) #[false, false, false, false, false, false, false, false, false, false, false, false, false] (by kernel_rfl) rfl rfl ⟨q0, q1⟩ (fun hHeld => ?_)
  refine pure_ (i := 0) (N := some 2) (v := ?_) (a' := ?_) #[true, false, false, false, false, false, false, false, false, false, false, false, false] rfl rfl (by kernel_rfl) (fun _ _ _ h => h) (Or.inl ⟨by rfl, ?_⟩) ?_ ?_
  rotate_left
  · intro w'
    go_simp
    with_reducible rfl
  rotate_left
  · simp only [Act.put, List.setIfInBounds_toArray, List.set_cons_zero, List.set_cons_succ, i64_w, i32_w]
    rfl
  refine take_ (i := 1) (N := some 3) (v := ?_) (a' := ?_) #[true, true, false, false, false, false, false, false, false, false, false, false, false] rfl rfl (by kernel_rfl) (fun _ _ _ h => h) (Or.inl ⟨by rfl, ?_⟩) hHeld ?_ ?_
  rotate_left
  · rintro w' ⟨s0, s1⟩
    go_simp
    with_reducible rfl
  rotate_left
  · simp only [Act.put, List.setIfInBounds_toArray, List.set_cons_zero, List.set_cons_succ, i64_w, i32_w]
    rfl
  refine take_ (i := 2) (N := some 4) (v := ?_) (a' := ?_) #[true, true, true, false, false, false, false, false, false, false, false, false, false] rfl rfl (by kernel_rfl) (fun _ _ _ h => h) (Or.inl ⟨by rfl, ?_⟩) hHeld ?_ ?_
  rotate_left
  · rintro w' ⟨s0, s1⟩
    go_simp
    with_reducible rfl
  rotate_left
  · simp only [Act.put, List.setIfInBounds_toArray, List.set_cons_zero, List.set_cons_succ, i64_w, i32_w]
    rfl
  refine take_ (i := 4) (N := some 6) (v := ?_) (a' := ?_) #[true, true, true, false, true, false, false, false, false, false, false, false, false] rfl rfl (by kernel_rfl) (fun _ _ _ h => h) (Or.inl ⟨by rfl, ?_⟩) hHeld ?_ ?_
  rotate_left
  · rintro w' ⟨s0, s1⟩
    go_simp
    with_reducible rfl
  rotate_left
  · simp only [Act.put, List.setIfInBounds_toArray, List.set_cons_zero, List.set_cons_succ, i64_w, i32_w]
    rfl
  refine take_ (i := 6) (N := some 8) (v := ?_) (a' := ?_) #[true, true, true, false, true, false, true, false, false, false, false, false, false] rfl rfl (by kernel_rfl) (fun _ _ _ h => h) (Or.inl ⟨by rfl, ?_⟩) hHeld ?_ ?_
  rotate_left
  · rintro w' ⟨s0, s1⟩
    go_simp
    with_reducible rfl
  rotate_left
  · simp only [Act.put, List.setIfInBounds_toArray, List.set_cons_zero, List.set_cons_succ, i64_w, i32_w]
    rfl
  refine one_ (i := 3) (N := some 5) #[true, true, true, true, true, false, true, false, false, false, false, false, false] rfl rfl (by kernel_rfl) (by decide) (fun K hK => ?_)
  refine goes_ Try.func86 (by kernel_rfl) rfl #[.pointer (some ⟨rb, 0, none⟩)] (by rfl) rfl rfl (by simp only [List.map_toArray, List.map_cons, List.map_nil]; rfl) ?_
  with_reducible refine (rtext_any rb _ _ w1.drew C1.out.rs (by omega)).mono ?_
  rintro e w2 ⟨u2, x1, s2, b2, rfl, ⟨rfl, hv2⟩, hR2, hM2, hsz2, hrd2⟩
  refine ⟨_, rfl, ?_⟩
  have C2 := Aside0.mk (C1.out.read hR2 hM2)
  have RD2 := Lib.hid hrd2
  have hz2 : s2.size ≤ 140737488355328 := by omega
  clear hR2 hM2 hrd2 hsz2
  refine hK.out _ _ ⟨blk_cell C2.out.tbx 1, blk_cell C2.out.qbx 0⟩ (fun hHeld => ?_)
  clear hK K
  refine norm_ (a' := ?_) ?_ ?_
  rotate_left
  · show Act.put _ (some 5) _ = _
    simp only [Act.put, List.setIfInBounds_toArray, List.set_cons_zero, List.set_cons_succ, i64_w, i32_w]
    rfl
  refine one_ (i := 5) (N := some 7) #[true, true, true, true, true, true, true, false, false, false, false, false, false] rfl rfl (by kernel_rfl) (by decide) (fun K hK => ?_)
  refine goes_ Try.func85 (by kernel_rfl) rfl #[.pointer (some ⟨rb, 0, none⟩)] (by rfl) rfl rfl (by simp only [List.map_toArray, List.map_cons, List.map_nil]; rfl) ?_
  with_reducible refine (rint_any rb _ _ w2 C2.out.rs (by omega)).mono ?_
  rintro e w3 ⟨u3, x2, s3, b3, rfl, ⟨rfl, hv3⟩, hR3, hM3, hsz3, hrd3⟩
  refine ⟨_, rfl, ?_⟩
  have C3 := Aside0.mk (C2.out.read hR3 hM3)
  have RD3 := Lib.hid hrd3
  have hz3 : s3.size ≤ 140737488355328 := by omega
  clear hR3 hM3 hrd3 hsz3
  refine hK.out _ _ ⟨blk_cell C3.out.tbx 1, blk_cell C3.out.qbx 0⟩ (fun hHeld => ?_)
  clear hK K
  refine norm_ (a' := ?_) ?_ ?_
  rotate_left
  · show Act.put _ (some 7) _ = _
    simp only [Act.put, List.setIfInBounds_toArray, List.set_cons_zero, List.set_cons_succ, i64_w, i32_w]
    rfl
  refine one_ (i := 7) (N := some 9) #[true, true, true, true, true, true, true, true, false, false, false, false, false] rfl rfl (by kernel_rfl) (by decide) (fun K hK => ?_)
  refine goes_ Try.func88 (by kernel_rfl) rfl #[.pointer (some ⟨rb, 0, none⟩)] (by rfl) rfl rfl (by simp only [List.map_toArray, List.map_cons, List.map_nil]; rfl) ?_
  with_reducible refine (rflag_any rb _ _ w3 C3.out.rs (by omega)).mono ?_
  rintro e w4 ⟨u4, x3, s4, b4, rfl, rfl, hR4, hM4, hsz4, hrd4⟩
  refine ⟨_, rfl, ?_⟩
  have C4 := Aside0.mk (C3.out.read hR4 hM4)
  have RD4 := Lib.hid hrd4
  have hz4 : s4.size ≤ 140737488355328 := by omega
  clear hR4 hM4 hrd4 hsz4
  refine hK.out _ _ ⟨blk_cell C4.out.tbx 1, blk_cell C4.out.qbx 0⟩ (fun hHeld => ?_)
  clear hK K
  refine norm_ (a' := ?_) ?_ ?_
  rotate_left
  · show Act.put _ (some 9) _ = _
    simp only [Act.put, List.setIfInBounds_toArray, List.set_cons_zero, List.set_cons_succ, i64_w, i32_w]
    rfl
  refine pure_ (i := 8) (N := some 10) (v := ?_) (a' := ?_) #[true, true, true, true, true, true, true, true, true, false, false, false, false] rfl rfl (by kernel_rfl) (fun _ _ _ h => h) (Or.inl ⟨by rfl, ?_⟩) ?_ ?_
  rotate_left
  · intro w'
    go_simp
    with_reducible rfl
  rotate_left
  · simp only [Act.put, List.setIfInBounds_toArray, List.set_cons_zero, List.set_cons_succ, i64_w, i32_w]
    rfl
  refine one_ (i := 9) (N := some 11) #[true, true, true, true, true, true, true, true, true, true, false, false, false] rfl rfl (by kernel_rfl) (by decide) (fun K hK => ?_)
  refine value_ (w1 := ?_) (v := ?_) (by rfl) rfl ?_ ?_
  rotate_left 2
  · go_simp
    constructor
    · rfl
    · rfl
  have C6 := Aside0.mk (C4.out.below (below_alloc (Below.refl _ _) (Obj.cells #[.string x1, .int .i64 x2, .bool x3] 62)))
  refine hK.out _ _ ⟨blk_cell C6.out.tbx 1, blk_cell C6.out.qbx 0⟩ (fun hHeld => ?_)
  clear hK K
  refine norm_ (a' := ?_) ?_ ?_
  rotate_left
  · show Act.put _ (some 11) _ = _
    simp only [Act.put, List.setIfInBounds_toArray, List.set_cons_zero, List.set_cons_succ, i64_w, i32_w]
    rfl
  refine one_ (i := 10) (N := some 12) #[true, true, true, true, true, true, true, true, true, true, true, false, false] rfl rfl (by kernel_rfl) (by decide) (fun K hK => ?_)
  refine Kd.R_append_step kCol (w0 := w4) wS.heap.size (by rfl) (.tmp 3) (.tmp 11) 26 62 _ 32 rfl Try.underlying26 info62b rfl (by decide) (by omega) _ xs (⟨x1, x2, x3⟩ : Col) [.string x1, .int .i64 x2, .bool x3] (fun q => wS.heap.size ≤ q) (fun _ => False) (by rfl) (by rfl) ?aP ?aK ?aF ?aO ?aB ?aS ?aL ?_
  case aP => exact kCol_M.2 rfl
  case aK => exact fun _ hk => hk.elim
  case aF => exact fun i hi => Nat.le_trans C4.out.md.size hi
  case aO => exact C4.out.row
  case aB => exact Below.refl _ _
  case aS => exact C4.out.md.size
  case aL => omega
  intro v7 w7 ho7 hb7 hg7 hat7
  obtain ⟨V7, vc7, hv7⟩ := Kd.R_slice ho7
  rw [List.length_append, List.length_singleton] at hv7
  subst hv7
  obtain ⟨hC7, hT7⟩ := C4.out.appended ho7 hg7 1 (cs' := #[.string nm, (.slice V7 (xs.length + 1) vc7), .slice none 0 0, .int .i64 0, .slice none 0 0]) rfl
  have C7 := Aside0.mk hC7
  have T7 := Aside0.mk hT7
  have hQ7 : w7.heap[qb]? = some (.cells #[.pointer (some ⟨rb, 0, none⟩)] 79 (0, 0)) := by have h := C4.out.qbx; rw [hg7.block qb (blk_lt h) (fun he => by have h1 := C4.out.row.1 qb he.symm; have h2 := C4.out.lts.2.2.1; omega)]; exact h
  have Q7 := Aside0.mk hQ7
  clear ho7 hb7 hg7 hat7 hC7 hT7 hQ7
  refine hK.out _ _ ⟨blk_cell T7.out 1, blk_cell Q7.out 0⟩ (fun hHeld => ?_)
  clear hK K
  refine norm_ (a' := ?_) ?_ ?_
  rotate_left
  · show Act.put _ (some 12) _ = _
    simp only [Act.put, List.setIfInBounds_toArray, List.set_cons_zero, List.set_cons_succ, i64_w, i32_w]
    rfl
  refine pure_ (i := 11) (N := some 13) (v := ?_) (a' := ?_) #[true, true, true, true, true, true, true, true, true, true, true, true, false] rfl rfl (by kernel_rfl) (fun _ _ _ h => h) (Or.inl ⟨by rfl, ?_⟩) ?_ ?_
  rotate_left
  · intro w'
    go_simp
    with_reducible rfl
  rotate_left
  · simp only [Act.put, List.setIfInBounds_toArray, List.set_cons_zero, List.set_cons_succ, i64_w, i32_w]
    rfl
  refine last_ (i := 12) (N := none) #[true, true, true, true, true, true, true, true, true, true, true, true, true] rfl rfl (by kernel_rfl) (by decide) (fun K hK => ?_)
  have z1 := blk_cell T7.out 1
  have z2 := blk_frozen T7.out 1
  refine skip_ (w1 := ?_) (by rfl) rfl ?_ ?_
  rotate_left
  · go_simp
    rfl
  refine hK.out _ _ ?_
  clear hK K
  refine done_ (by kernel_rfl) ?_
  clear z1 z2 hHeld q0 q1
  go_wp2_with fail
  go_end0
  exact ⟨rfl, MI.step HXK.out HL.out (((RD2.out).pair ((RD3.out).pair (RD4.out))).map (fun p => (⟨p.1, p.2.1, p.2.2⟩ : Col)) (fun c => (c.name, c.type, c.notNull)) rfl (fun _ => rfl) (fun y hy => ⟨hy.1, hy.2, trivial⟩) (fun _ _ => rfl)) C7.out rfl (by omega)⟩
set_option maxRecDepth 100000 in
set_option maxHeartbeats 4000000 in
theorem cl91_any (rb tb qb : Nat) (nm : ByteArray) (wS : World) (l0 : List Int) (b0 : Bool) (k : Nat) (w1 : World) (s1 : ByteArray) (hk : k < 268435456) (hI : MI kPrm 66 wP okP rb tb qb 34 (fun v => #[.string nm, v, .slice none 0 0, .int .i64 0, .int .i64 0]) wS l0 b0 k w1 s1 false) (hRS : RS w1 rb s1 false) :
    Calls Try.prog 91 #[.pointer (some ⟨tb, 0, none⟩), .pointer (some ⟨qb, 0, none⟩)] w1 (fun e w2 => e = .returned (.tuple #[]) ∧ ∃ s2 b2, RS w2 rb s2 b2 ∧ MI kPrm 66 wP okP rb tb qb 34 (fun v => #[.string nm, v, .slice none 0 0, .int .i64 0, .int .i64 0]) wS l0 b0 (k + 1) w2 s2 b2) := by
  obtain ⟨v, xs, hxk, hL, hC, hs⟩ := hI
  obtain ⟨V, vc, hv⟩ := Kd.R_slice hC.row
  subst hv
  have hC1 := hC.read hRS (Mod.refl _ _)
  have C1 := Aside0.mk (hC1.below (below_drew (Below.refl _ _)))
  have HL := Lib.hid hL
  have HXK := Lib.hid hxk
  have hxl : xs.length < 268435456 := by omega
  clear hC hC1 hL hRS hxk
  have q0 : w1.drew.cell? ⟨tb, 1, none⟩ = some (.slice V xs.length vc) := blk_cell C1.out.tbx 1
  have q1 : w1.drew.cell? ⟨qb, 0, none⟩ = some (.pointer (some ⟨rb, 0, none⟩)) := blk_cell C1.out.qbx 0
  go_enter Try.func91, Try.ntmps91
  go_wp2_with fail
  refine start_ (n := 11) (S := fun w' => w'.cell? ⟨tb, 1, none⟩ = some (.slice V xs.length vc) ∧ w'.cell? ⟨qb, 0, none⟩ = some (.pointer (some ⟨rb, 0, none⟩))) (ds := [10]) #[false, false, false, false, false, false, false, false, false, false, false] (by kernel_rfl) rfl rfl ⟨q0, q1⟩ (fun hHeld => ?_)
  refine pure_ (i := 0) (N := some 2) (v := ?_) (a' := ?_) #[true, false, false, false, false, false, false, false, false, false, false] rfl rfl (by kernel_rfl) (fun _ _ _ h => h) (Or.inl ⟨by rfl, ?_⟩) ?_ ?_
  rotate_left
  · intro w'
    go_simp
    with_reducible rfl
  rotate_left
  · simp only [Act.put, List.setIfInBounds_toArray, List.set_cons_zero, List.set_cons_succ, i64_w, i32_w]
    rfl
  refine take_ (i := 1) (N := some 3) (v := ?_) (a' := ?_) #[true, true, false, false, false, false, false, false, false, false, false] rfl rfl (by kernel_rfl) (fun _ _ _ h => h) (Or.inl ⟨by rfl, ?_⟩) hHeld ?_ ?_
  rotate_left
  · rintro w' ⟨s0, s1⟩
    go_simp
    with_reducible rfl
  rotate_left
  · simp only [Act.put, List.setIfInBounds_toArray, List.set_cons_zero, List.set_cons_succ, i64_w, i32_w]
    rfl
  refine take_ (i := 2) (N := some 4) (v := ?_) (a' := ?_) #[true, true, true, false, false, false, false, false, false, false, false] rfl rfl (by kernel_rfl) (fun _ _ _ h => h) (Or.inl ⟨by rfl, ?_⟩) hHeld ?_ ?_
  rotate_left
  · rintro w' ⟨s0, s1⟩
    go_simp
    with_reducible rfl
  rotate_left
  · simp only [Act.put, List.setIfInBounds_toArray, List.set_cons_zero, List.set_cons_succ, i64_w, i32_w]
    rfl
  refine take_ (i := 4) (N := some 6) (v := ?_) (a' := ?_) #[true, true, true, false, true, false, false, false, false, false, false] rfl rfl (by kernel_rfl) (fun _ _ _ h => h) (Or.inl ⟨by rfl, ?_⟩) hHeld ?_ ?_
  rotate_left
  · rintro w' ⟨s0, s1⟩
    go_simp
    with_reducible rfl
  rotate_left
  · simp only [Act.put, List.setIfInBounds_toArray, List.set_cons_zero, List.set_cons_succ, i64_w, i32_w]
    rfl
  refine one_ (i := 3) (N := some 5) #[true, true, true, true, true, false, false, false, false, false, false] rfl rfl (by kernel_rfl) (by decide) (fun K hK => ?_)
  refine goes_ Try.func86 (by kernel_rfl) rfl #[.pointer (some ⟨rb, 0, none⟩)] (by rfl) rfl rfl (by simp only [List.map_toArray, List.map_cons, List.map_nil]; rfl) ?_
  with_reducible refine (rtext_any rb _ _ w1.drew C1.out.rs (by omega)).mono ?_
  rintro e w2 ⟨u2, x1, s2, b2, rfl, ⟨rfl, hv2⟩, hR2, hM2, hsz2, hrd2⟩
  refine ⟨_, rfl, ?_⟩
  have C2 := Aside0.mk (C1.out.read hR2 hM2)
  have RD2 := Lib.hid hrd2
  have hz2 : s2.size ≤ 140737488355328 := by omega
  clear hR2 hM2 hrd2 hsz2
  refine hK.out _ _ ⟨blk_cell C2.out.tbx 1, blk_cell C2.out.qbx 0⟩ (fun hHeld => ?_)
  clear hK K
  refine norm_ (a' := ?_) ?_ ?_
  rotate_left
  · show Act.put _ (some 5) _ = _
    simp only [Act.put, List.setIfInBounds_toArray, List.set_cons_zero, List.set_cons_succ, i64_w, i32_w]
    rfl
  refine one_ (i := 5) (N := some 7) #[true, true, true, true, true, true, false, false, false, false, false] rfl rfl (by kernel_rfl) (by decide) (fun K hK => ?_)
  refine goes_ Try.func85 (by kernel_rfl) rfl #[.pointer (some ⟨rb, 0, none⟩)] (by rfl) rfl rfl (by simp only [List.map_toArray, List.map_cons, List.map_nil]; rfl) ?_
  with_reducible refine (rint_any rb _ _ w2 C2.out.rs (by omega)).mono ?_
  rintro e w3 ⟨u3, x2, s3, b3, rfl, ⟨rfl, hv3⟩, hR3, hM3, hsz3, hrd3⟩
  refine ⟨_, rfl, ?_⟩
  have C3 := Aside0.mk (C2.out.read hR3 hM3)
  have RD3 := Lib.hid hrd3
  have hz3 : s3.size ≤ 140737488355328 := by omega
  clear hR3 hM3 hrd3 hsz3
  refine hK.out _ _ ⟨blk_cell C3.out.tbx 1, blk_cell C3.out.qbx 0⟩ (fun hHeld => ?_)
  clear hK K
  refine norm_ (a' := ?_) ?_ ?_
  rotate_left
  · show Act.put _ (some 7) _ = _
    simp only [Act.put, List.setIfInBounds_toArray, List.set_cons_zero, List.set_cons_succ, i64_w, i32_w]
    rfl
  refine pure_ (i := 6) (N := some 8) (v := ?_) (a' := ?_) #[true, true, true, true, true, true, true, false, false, false, false] rfl rfl (by kernel_rfl) (fun _ _ _ h => h) (Or.inl ⟨by rfl, ?_⟩) ?_ ?_
  rotate_left
  · intro w'
    go_simp
    with_reducible rfl
  rotate_left
  · simp only [Act.put, List.setIfInBounds_toArray, List.set_cons_zero, List.set_cons_succ, i64_w, i32_w]
    rfl
  refine one_ (i := 7) (N := some 9) #[true, true, true, true, true, true, true, true, false, false, false] rfl rfl (by kernel_rfl) (by decide) (fun K hK => ?_)
  refine value_ (w1 := ?_) (v := ?_) (by rfl) rfl ?_ ?_
  rotate_left 2
  · go_simp
    constructor
    · rfl
    · rfl
  have C6 := Aside0.mk (C3.out.below (below_alloc (Below.refl _ _) (Obj.cells #[.string x1, .int .i64 x2] 66)))
  refine hK.out _ _ ⟨blk_cell C6.out.tbx 1, blk_cell C6.out.qbx 0⟩ (fun hHeld => ?_)
  clear hK K
  refine norm_ (a' := ?_) ?_ ?_
  rotate_left
  · show Act.put _ (some 9) _ = _
    simp only [Act.put, List.setIfInBounds_toArray, List.set_cons_zero, List.set_cons_succ, i64_w, i32_w]
    rfl
  refine one_ (i := 8) (N := some 10) #[true, true, true, true, true, true, true, true, true, false, false] rfl rfl (by kernel_rfl) (by decide) (fun K hK => ?_)
  refine Kd.R_append_step kPrm (w0 := w3) wS.heap.size (by rfl) (.tmp 3) (.tmp 9) 31 66 _ 24 rfl Try.underlying31 info66b rfl (by decide) (by omega) _ xs (⟨x1, x2⟩ : Prm) [.string x1, .int .i64 x2] (fun q => wS.heap.size ≤ q) (fun _ => False) (by rfl) (by rfl) ?aP ?aK ?aF ?aO ?aB ?aS ?aL ?_
  case aP => exact kPrm_M.2 rfl
  case aK => exact fun _ hk => hk.elim
  case aF => exact fun i hi => Nat.le_trans C3.out.md.size hi
  case aO => exact C3.out.row
  case aB => exact Below.refl _ _
  case aS => exact C3.out.md.size
  case aL => omega
  intro v7 w7 ho7 hb7 hg7 hat7
  obtain ⟨V7, vc7, hv7⟩ := Kd.R_slice ho7
  rw [List.length_append, List.length_singleton] at hv7
  subst hv7
  obtain ⟨hC7, hT7⟩ := C3.out.appended ho7 hg7 1 (cs' := #[.string nm, (.slice V7 (xs.length + 1) vc7), .slice none 0 0, .int .i64 0, .int .i64 0]) rfl
  have C7 := Aside0.mk hC7
  have T7 := Aside0.mk hT7
  have hQ7 : w7.heap[qb]? = some (.cells #[.pointer (some ⟨rb, 0, none⟩)] 79 (0, 0)) := by have h := C3.out.qbx; rw [hg7.block qb (blk_lt h) (fun he => by have h1 := C3.out.row.1 qb he.symm; have h2 := C3.out.lts.2.2.1; omega)]; exact h
  have Q7 := Aside0.mk hQ7
  clear ho7 hb7 hg7 hat7 hC7 hT7 hQ7
  refine hK.out _ _ ⟨blk_cell T7.out 1, blk_cell Q7.out 0⟩ (fun hHeld => ?_)
  clear hK K
  refine norm_ (a' := ?_) ?_ ?_
  rotate_left
  · show Act.put _ (some 10) _ = _
    simp only [Act.put, List.setIfInBounds_toArray, List.set_cons_zero, List.set_cons_succ, i64_w, i32_w]
    rfl
  refine pure_ (i := 9) (N := some 11) (v := ?_) (a' := ?_) #[true, true, true, true, true, true, true, true, true, true, false] rfl rfl (by kernel_rfl) (fun _ _ _ h => h) (Or.inl ⟨by rfl, ?_⟩) ?_ ?_
  rotate_left
  · intro w'
    go_simp
    with_reducible rfl
  rotate_left
  · simp only [Act.put, List.setIfInBounds_toArray, List.set_cons_zero, List.set_cons_succ, i64_w, i32_w]
    rfl
  refine last_ (i := 10) (N := none) #[true, true, true, true, true, true, true, true, true, true, true] rfl rfl (by kernel_rfl) (by decide) (fun K hK => ?_)
  have z1 := blk_cell T7.out 1
  have z2 := blk_frozen T7.out 1
  refine skip_ (w1 := ?_) (by rfl) rfl ?_ ?_
  rotate_left
  · go_simp
    rfl
  refine hK.out _ _ ?_
  clear hK K
  refine done_ (by kernel_rfl) ?_
  clear z1 z2 hHeld q0 q1
  go_wp2_with fail
  go_end0
  exact ⟨rfl, MI.step HXK.out HL.out (((RD2.out).pair (RD3.out)).map (fun p => (⟨p.1, p.2⟩ : Prm)) (fun c => (c.name, c.type)) rfl (fun _ => rfl) (fun y hy => hy) (fun _ _ => rfl)) C7.out rfl (by omega)⟩
set_option maxRecDepth 100000 in
set_option maxHeartbeats 4000000 in
theorem cl92_any (rb tb qb : Nat) (nm : ByteArray) (p1 : Value) (wS : World) (l0 : List Int) (b0 : Bool) (k : Nat) (w1 : World) (s1 : ByteArray) (hk : k < 268435456) (hI : MI Kd.string 9 wT okT rb tb qb 34 (fun v => #[.string nm, p1, v, .int .i64 0, .int .i64 0]) wS l0 b0 k w1 s1 false) (hRS : RS w1 rb s1 false) :
    Calls Try.prog 92 #[.pointer (some ⟨tb, 0, none⟩), .pointer (some ⟨qb, 0, none⟩)] w1 (fun e w2 => e = .returned (.tuple #[]) ∧ ∃ s2 b2, RS w2 rb s2 b2 ∧ MI Kd.string 9 wT okT rb tb qb 34 (fun v => #[.string nm, p1, v, .int .i64 0, .int .i64 0]) wS l0 b0 (k + 1) w2 s2 b2) := by
  obtain ⟨v, xs, hxk, hL, hC, hs⟩ := hI
  obtain ⟨V, vc, hv⟩ := Kd.R_slice hC.row
  subst hv
  have hC1 := hC.read hRS (Mod.refl _ _)
  have C1 := Aside0.mk (hC1.below (below_drew (Below.refl _ _)))
  have HL := Lib.hid hL
  have HXK := Lib.hid hxk
  have hxl : xs.length < 268435456 := by omega
  clear hC hC1 hL hRS hxk
  have q0 : w1.drew.cell? ⟨tb, 2, none⟩ = some (.slice V xs.length vc) := blk_cell C1.out.tbx 2
  have q1 : w1.drew.cell? ⟨qb, 0, none⟩ = some (.pointer (some ⟨rb, 0, none⟩)) := blk_cell C1.out.qbx 0
  go_enter Try.func92, Try.ntmps92
  go_wp2_with fail
  refine start_ (n := 8) (S := fun w' => w'.cell? ⟨tb, 2, none⟩ = some (.slice V xs.length vc) ∧ w'.cell? ⟨qb, 0, none⟩ = some (.pointer (some ⟨rb, 0, none⟩))) (ds := [7]) #[false, false, false, false, false, false, false, false] (by kernel_rfl) rfl rfl ⟨q0, q1⟩ (fun hHeld => ?_)
  refine pure_ (i := 0) (N := some 2) (v := ?_) (a' := ?_) #[true, false, false, false, false, false, false, false] rfl rfl (by kernel_rfl) (fun _ _ _ h => h) (Or.inl ⟨by rfl, ?_⟩) ?_ ?_
  rotate_left
  · intro w'
    go_simp
    with_reducible rfl
  rotate_left
  · simp only [Act.put, List.setIfInBounds_toArray, List.set_cons_zero, List.set_cons_succ, i64_w, i32_w]
    rfl
  refine take_ (i := 1) (N := some 3) (v := ?_) (a' := ?_) #[true, true, false, false, false, false, false, false] rfl rfl (by kernel_rfl) (fun _ _ _ h => h) (Or.inl ⟨by rfl, ?_⟩) hHeld ?_ ?_
  rotate_left
  · rintro w' ⟨s0, s1⟩
    go_simp
    with_reducible rfl
  rotate_left
  · simp only [Act.put, List.setIfInBounds_toArray, List.set_cons_zero, List.set_cons_succ, i64_w, i32_w]
    rfl
  refine take_ (i := 2) (N := some 4) (v := ?_) (a' := ?_) #[true, true, true, false, false, false, false, false] rfl rfl (by kernel_rfl) (fun _ _ _ h => h) (Or.inl ⟨by rfl, ?_⟩) hHeld ?_ ?_
  rotate_left
  · rintro w' ⟨s0, s1⟩
    go_simp
    with_reducible rfl
  rotate_left
  · simp only [Act.put, List.setIfInBounds_toArray, List.set_cons_zero, List.set_cons_succ, i64_w, i32_w]
    rfl
  refine one_ (i := 3) (N := some 5) #[true, true, true, true, false, false, false, false] rfl rfl (by kernel_rfl) (by decide) (fun K hK => ?_)
  refine goes_ Try.func86 (by kernel_rfl) rfl #[.pointer (some ⟨rb, 0, none⟩)] (by rfl) rfl rfl (by simp only [List.map_toArray, List.map_cons, List.map_nil]; rfl) ?_
  with_reducible refine (rtext_any rb _ _ w1.drew C1.out.rs (by omega)).mono ?_
  rintro e w2 ⟨u2, x, s2, b2, rfl, ⟨rfl, hv2⟩, hR2, hM2, hsz2, hrd2⟩
  refine ⟨_, rfl, ?_⟩
  have C2 := Aside0.mk (C1.out.read hR2 hM2)
  have RD2 := Lib.hid hrd2
  have hz2 : s2.size ≤ 140737488355328 := by omega
  clear hR2 hM2 hrd2 hsz2
  refine hK.out _ _ ⟨blk_cell C2.out.tbx 2, blk_cell C2.out.qbx 0⟩ (fun hHeld => ?_)
  clear hK K
  refine norm_ (a' := ?_) ?_ ?_
  rotate_left
  · show Act.put _ (some 5) _ = _
    simp only [Act.put, List.setIfInBounds_toArray, List.set_cons_zero, List.set_cons_succ, i64_w, i32_w]
    rfl
  refine one_ (i := 4) (N := some 6) #[true, true, true, true, true, false, false, false] rfl rfl (by kernel_rfl) (by decide) (fun K hK => ?_)
  refine value_ (w1 := ?_) (v := ?_) (by rfl) rfl ?_ ?_
  rotate_left 2
  · go_simp
    constructor
    · rfl
    · rfl
  have C6 := Aside0.mk (C2.out.below (below_alloc (Below.refl _ _) (Obj.cells #[.string x] 9)))
  refine hK.out _ _ ⟨blk_cell C6.out.tbx 2, blk_cell C6.out.qbx 0⟩ (fun hHeld => ?_)
  clear hK K
  refine norm_ (a' := ?_) ?_ ?_
  rotate_left
  · show Act.put _ (some 6) _ = _
    simp only [Act.put, List.setIfInBounds_toArray, List.set_cons_zero, List.set_cons_succ, i64_w, i32_w]
    rfl
  refine one_ (i := 5) (N := some 7) #[true, true, true, true, true, true, false, false] rfl rfl (by kernel_rfl) (by decide) (fun K hK => ?_)
  refine Kd.R_append_step Kd.string (w0 := w2) wS.heap.size (by rfl) (.tmp 3) (.tmp 6) 32 9 _ 16 rfl Try.underlying32 info9b rfl (by decide) (by omega) _ xs x [.string x] (fun q => wS.heap.size ≤ q) (fun _ => False) (by rfl) (by rfl) ?aP ?aK ?aF ?aO ?aB ?aS ?aL ?_
  case aP => exact rfl
  case aK => exact fun _ hk => hk.elim
  case aF => exact fun i hi => Nat.le_trans C2.out.md.size hi
  case aO => exact C2.out.row
  case aB => exact Below.refl _ _
  case aS => exact C2.out.md.size
  case aL => omega
  intro v7 w7 ho7 hb7 hg7 hat7
  obtain ⟨V7, vc7, hv7⟩ := Kd.R_slice ho7
  rw [List.length_append, List.length_singleton] at hv7
  subst hv7
  obtain ⟨hC7, hT7⟩ := C2.out.appended ho7 hg7 2 (cs' := #[.string nm, p1, (.slice V7 (xs.length + 1) vc7), .int .i64 0, .int .i64 0]) rfl
  have C7 := Aside0.mk hC7
  have T7 := Aside0.mk hT7
  have hQ7 : w7.heap[qb]? = some (.cells #[.pointer (some ⟨rb, 0, none⟩)] 79 (0, 0)) := by have h := C2.out.qbx; rw [hg7.block qb (blk_lt h) (fun he => by have h1 := C2.out.row.1 qb he.symm; have h2 := C2.out.lts.2.2.1; omega)]; exact h
  have Q7 := Aside0.mk hQ7
  clear ho7 hb7 hg7 hat7 hC7 hT7 hQ7
  refine hK.out _ _ ⟨blk_cell T7.out 2, blk_cell Q7.out 0⟩ (fun hHeld => ?_)
  clear hK K
  refine norm_ (a' := ?_) ?_ ?_
  rotate_left
  · show Act.put _ (some 7) _ = _
    simp only [Act.put, List.setIfInBounds_toArray, List.set_cons_zero, List.set_cons_succ, i64_w, i32_w]
    rfl
  refine pure_ (i := 6) (N := some 8) (v := ?_) (a' := ?_) #[true, true, true, true, true, true, true, false] rfl rfl (by kernel_rfl) (fun _ _ _ h => h) (Or.inl ⟨by rfl, ?_⟩) ?_ ?_
  rotate_left
  · intro w'
    go_simp
    with_reducible rfl
  rotate_left
  · simp only [Act.put, List.setIfInBounds_toArray, List.set_cons_zero, List.set_cons_succ, i64_w, i32_w]
    rfl
  refine last_ (i := 7) (N := none) #[true, true, true, true, true, true, true, true] rfl rfl (by kernel_rfl) (by decide) (fun K hK => ?_)
  have z1 := blk_cell T7.out 2
  have z2 := blk_frozen T7.out 2
  refine skip_ (w1 := ?_) (by rfl) rfl ?_ ?_
  rotate_left
  · go_simp
    rfl
  refine hK.out _ _ ?_
  clear hK K
  refine done_ (by kernel_rfl) ?_
  clear z1 z2 hHeld q0 q1
  go_wp2_with fail
  go_end0
  exact ⟨rfl, MI.step HXK.out HL.out (RD2.out) C7.out rfl (by omega)⟩
end Go.Proofs.Ytcmgdieeclninaa
