/- Layer 8: append of whole lists; the walks of slices.Clone. -/
import Derived.Test.YtcmgdieeclninaaD18
import Derived.Maps.AppendAt
import Derived.Lib.SliceRun
set_option linter.unusedVariables false
set_option linter.unusedSimpArgs false
namespace Go.Proofs.Ytcmgdieeclninaa
open Go.RowKit Go.Proofs.YtcmgdieeclninaaW.PrintWords
theorem run_append_all {P : Program} (W : World) (base : Nat) (t ty e : TypeId) (z : Value) (sz bytes : Nat) (ht : P.underlying t = some (.slice e)) (hinfo : (P.info? e).map (fun i => (i.zero, i.size, i.bytes)) = some (some z, sz, bytes)) (hz : z.cells.size = sz) (hs0 : 0 < sz) (hb0 : 0 < bytes)
    (v : Value) (n : Nat) (xs : List Value) (HO : W.ownsRow base e sz v n xs) (A : Option Addr) (m c : Nat) (news : List Value) (hl : news.length = m * sz) (hA : 0 < m → ∃ ad, A = some ad) (hnews : ∀ ad, A = some ad → ∀ j u, news[j]? = some u → W.cell? (ad.add j) = some u)
    (h1 : ∀ u ∈ news, u.oneCell' = true) (hbase : base ≤ W.heap.size) (hlim : (n + m) * bytes ≤ 140737488355328) :
    ∃ v1 w1, (Builtin.append_ #[t, t] ty #[v, .slice A m c]).run P W = .ok v1 w1 ∧ w1.ownsRow base e sz v1 (n + m) (xs ++ news) ∧ W.grownBy w1 v.ownBlock ∧ (v1.ownBlock = v.ownBlock ∨ v1.ownBlock = some W.heap.size) := by
  obtain ⟨i0, hi, hzz⟩ := Option.map_eq_some_iff.1 hinfo
  simp only [Prod.mk.injEq] at hzz
  obtain ⟨hz0, hz1, hz2⟩ := hzz
  have hlen : n + m ≤ 140737488355328 := Nat.le_trans (Nat.le_mul_of_pos_right _ hb0) hlim
  rcases A with _ | ad
  · have h0 : m = 0 := by
      rcases Nat.eq_zero_or_pos m with h0 | h0
      · exact h0
      · obtain ⟨ad, h⟩ := hA h0
        cases h
    subst h0
    obtain rfl : news = [] := List.eq_nil_of_length_eq_zero (by omega)
    refine ⟨v, W, ?_, by simpa using HO, World.grownBy.refl W _, .inl rfl⟩
    rcases HO.2 with ⟨rfl, hn⟩ | ⟨g, cap, cur, rfl, _, _, hnc, _⟩
    · simp [Builtin.append_, run_underlying ht, sizeOf, typeInfo, hi, Builtin.lenOf, Builtin.firstCells]
    · simp [Builtin.append_, run_underlying ht, sizeOf, typeInfo, hi, Builtin.lenOf, Builtin.firstCells, hnc, storeCells]
  · obtain ⟨v1, w1, hr, h2, h3, _, h5⟩ := run_append_own_at (P := P) W base t ty e i0 z sz bytes ht hi hz0 hz1 hz2 hz hs0 v n xs HO ad m c news hl (hnews ad rfl) h1 (by simp only [maxLen]; omega) hlim hbase
    exact ⟨v1, w1, hr, h2, h3, h5⟩
section
variable {P : Program} {ops : Array Oper} {rest : List Oper} {o : Oper} {a : Act} {Q : Exit → Act → World → Prop} {α : Type}
theorem gate_append {W : World} {xs : Array Operand} {ts : Array TypeId} (_ho : o.op = .call { callee := .builtin .append, args := xs, argTypes := ts }) (h : wpList P ops Q (o :: rest) a W) : wpList P ops Q (o :: rest) a W := h
/-- append(v, ys..), v a row of one's own: cells alone are told. -/
theorem own_append_all {w0 W : World} (base : Nat) (hgd : o.guard = none) (s x : Operand) (t e : TypeId) (z : Value) (sz bytes : Nat)
    (ho : o.op = .call { callee := .builtin .append, args := #[s, x], argTypes := #[t, t] }) (ht : P.underlying t = some (.slice e)) (hinfo : (P.info? e).map (fun i => (i.zero, i.size, i.bytes)) = some (some z, sz, bytes)) (hz : z.cells.size = sz) (hs0 : 0 < sz) (hb0 : 0 < bytes)
    (v : Value) (n : Nat) (xs : List Value) (A : Option Addr) (m c : Nat) (news : List Value) (hs : a.eval s = v) (hx : a.eval x = .slice A m c)
    (HO : W.ownsRow base e sz v n xs) (hl : news.length = m * sz) (hA : 0 < m → ∃ ad, A = some ad) (hnews : ∀ ad, A = some ad → ∀ j u, news[j]? = some u → W.cell? (ad.add j) = some u) (h1 : ∀ u ∈ news, u.oneCell' = true)
    (HB : Below base w0 W) (hbase : base ≤ W.heap.size) (hlim : (n + m) * bytes ≤ 140737488355328)
    (h : ∀ v1 w1, w1.ownsRow base e sz v1 (n + m) (xs ++ news) → Below base w0 w1 → W.grownBy w1 v.ownBlock → (v1.ownBlock = v.ownBlock ∨ v1.ownBlock = some W.heap.size) → wpList P ops Q rest (a.put o.dst v1) w1) :
    wpList P ops Q (o :: rest) a W := by
  obtain ⟨v1, w1, hr, hown, hg, hat⟩ := run_append_all (P := P) W base t o.type e z sz bytes ht hinfo hz hs0 hb0 v n xs HO A m c news hl hA hnews h1 hbase hlim
  refine wpList_plain hgd fun K hK => ?_
  unfold Oper.wp execOp
  simp only [ho, resolve, invoke, builtin, Sem.run_bind, Sem.run_pure, Result.andThen_ok, List.map_toArray, List.map_cons, List.map_nil, hs, hx, hr]
  exact hK _ _ (h v1 w1 hown (HB.grown hg hbase (own_base HO)) hg hat)
end
/-- The cells of a row that is read. -/
theorem reads_cells {α : Type} {R : α → List Value → Prop} {sz : Nat} {w : World} {A : Option Addr} {n : Nat} {ys : List α} (h : ReadsRow R sz w A n ys) :
    ∃ news, Reps R sz ys news ∧ news.length = n * sz ∧ (0 < n → ∃ ad, A = some ad) ∧ ∀ ad, A = some ad → ∀ j u, news[j]? = some u → w.cell? (ad.add j) = some u := by
  rcases Nat.eq_zero_or_pos n with h0 | hp
  · obtain rfl : ys = [] := List.eq_nil_of_length_eq_zero (by rw [h.1, h0])
    exact ⟨[], Reps.none _ _, by simp [h0], fun h => by omega, fun _ _ j u hj => by simp at hj⟩
  · obtain ⟨ad, hA, _⟩ := h.2.2 hp
    subst hA
    obtain ⟨news, hnr, hnc⟩ := ReadsRow.inner_ h
    exact ⟨news, hnr, by rw [hnr.1, h.1], fun _ => ⟨ad, rfl⟩, fun ad' he j u hj => by injection he with he; subst he; exact hnc j u hj⟩
theorem reps_one {α : Type} {d : Kd α} {w : World} {ys : List α} {news : List Value} (h : Reps (d.K w) d.sz ys news) (hs0 : 0 < d.sz) : ∀ u ∈ news, u.oneCell' = true := by
  intro u hu
  obtain ⟨q, hq, rfl⟩ := List.mem_iff_getElem.1 hu
  have hql : q / d.sz < ys.length := by
    rw [Nat.div_lt_iff_lt_mul hs0, ← h.1]
    exact hq
  have hc := h.2 (q / d.sz) _ (List.getElem?_eq_getElem hql)
  refine d.K_one hc _ ?_
  rw [List.mem_iff_getElem?]
  refine ⟨q % d.sz, ?_⟩
  rw [List.getElem?_take, if_pos (Nat.mod_lt _ hs0), List.getElem?_drop, Nat.mul_comm, Nat.div_add_mod, List.getElem?_eq_getElem hq]
/-- What a clone is: cells of one's own that say, in the old world, what the old ones say. -/
def Cloned {α : Type} (d : Kd α) (e : TypeId) (xs : List α) (w0 w : World) (en : Ending) (w' : World) : Prop :=
  ∃ v news, en = .returned v ∧ w'.ownsRow w.heap.size e d.sz v xs.length news ∧ Reps (d.K w0) d.sz xs news ∧ Below w.heap.size w w'
theorem lit0 (W : World) (base : Nat) (e : TypeId) (sz : Nat) (hb : base ≤ W.heap.size) : (W.alloc (.cells #[] e)).ownsRow base e sz (.slice (some ⟨W.heap.size, 0, none⟩) 0 0) 0 [] := by
  have h2 := World.ownsRow_lit (base := base) (e := e) (size := sz) W #[] 0 hb (by simp [maxLen]) (by simp)
  simpa using h2
theorem info9b : (Try.prog.info? 9).map (fun i => (i.zero, i.size, i.bytes)) = some (some (.string ByteArray.empty), 1, 16) := by kernel_rfl
theorem info62b : (Try.prog.info? 62).map (fun i => (i.zero, i.size, i.bytes)) = some (some (.agg #[.string ByteArray.empty, .int .i64 0, .bool false]), 3, 32) := by kernel_rfl
theorem info64b : (Try.prog.info? 64).map (fun i => (i.zero, i.size, i.bytes)) = some (some (.agg #[.string ByteArray.empty, .slice none 0 0, .bool false]), 3, 48) := by kernel_rfl
theorem info66b : (Try.prog.info? 66).map (fun i => (i.zero, i.size, i.bytes)) = some (some (.agg #[.string ByteArray.empty, .int .i64 0]), 2, 24) := by kernel_rfl
theorem info3b : (Try.prog.info? 3).map (fun i => (i.zero, i.size, i.bytes)) = some (some (.int .i64 0), 1, 8) := by kernel_rfl
set_option maxRecDepth 100000 in
set_option maxHeartbeats 1000000 in
theorem clone73_any (A : Option Addr) (c : Nat) (xs : List Int) (w0 w : World) (hb0 : Below w0.heap.size w0 w) (hC : (Kd.int .i64).C w0 A xs.length xs) (hn : xs.length * 8 ≤ 140737488355328) :
    Calls Try.prog 73 #[.slice A xs.length c] w (Cloned (Kd.int .i64) 3 xs w0 w) := by
  obtain ⟨news, hr, hl, hA, hcs⟩ := reads_cells hC
  have h1 := reps_one hr (by decide)
  have heq := Lib.run_eql_slice_nil (P := Try.prog) w 27 3 A xs.length c 0 0 Try.underlying27
  have HR := Aside0.mk hr
  have HN := Lib.hid hl
  have HA := Lib.hid hA
  have HCS := Lib.hid hcs
  have HB0 := Aside0.mk hb0
  have HONE := Lib.hid h1
  clear hr hl hA hcs h1 hb0
  go_enter Try.func73, Try.ntmps73
  cases A with
  | none =>
    go_wp2_with fail
    go_ret
    obtain rfl : xs = [] := by
      cases xs with
      | nil => rfl
      | cons a l => obtain ⟨ad, h⟩ := HA.out (by simp); cases h
    exact ⟨_, [], rfl, own_nil _ _ _ _, Reps.none _ _, Below.refl _ _⟩
  | some ad =>
    go_wp2_with ((with_reducible refine gate_append (xs := #[.tmp 5, .tmp 6]) rfl ?_); go_loud (refine own_append_all (w0 := w) w.heap.size rfl (.tmp 5) (.tmp 6) 27 3 _ 1 8 rfl Try.underlying27 info3b rfl (by decide) (by decide) _ 0 [] (some ad) xs.length c news rfl rfl (lit0 w w.heap.size 3 1 (Nat.le_refl _)) HN.out HA.out ?aC HONE.out (below_alloc (Below.refl _ _) _) (by simp) (by omega) ?_); (case aC => intro ad' he j u hj; exact pw_cell_below (below_alloc (Below.refl _ _) _) (pw_cell_below HB0.out (HCS.out ad' he j u hj))); intro v1 w1 ho hb hg hat; have HO := Aside0.mk ho; have HB := Aside0.mk hb; clear ho hb hg hat)
    go_ret
    exact ⟨_, news, rfl, by have h := HO.out; rw [Nat.zero_add, List.nil_append] at h; exact h, HR.out, HB.out⟩
set_option maxRecDepth 100000 in
set_option maxHeartbeats 1000000 in
theorem clone78_any (A : Option Addr) (c : Nat) (xs : List ByteArray) (w0 w : World) (hb0 : Below w0.heap.size w0 w) (hC : Kd.string.C w0 A xs.length xs) (hn : xs.length * 16 ≤ 140737488355328) :
    Calls Try.prog 78 #[.slice A xs.length c] w (Cloned Kd.string 9 xs w0 w) := by
  obtain ⟨news, hr, hl, hA, hcs⟩ := reads_cells hC
  have h1 := reps_one hr (by decide)
  have heq := Lib.run_eql_slice_nil (P := Try.prog) w 32 9 A xs.length c 0 0 Try.underlying32
  have HR := Aside0.mk hr
  have HN := Lib.hid hl
  have HA := Lib.hid hA
  have HCS := Lib.hid hcs
  have HB0 := Aside0.mk hb0
  have HONE := Lib.hid h1
  clear hr hl hA hcs h1 hb0
  go_enter Try.func78, Try.ntmps78
  cases A with
  | none =>
    go_wp2_with fail
    go_ret
    obtain rfl : xs = [] := by
      cases xs with
      | nil => rfl
      | cons a l => obtain ⟨ad, h⟩ := HA.out (by simp); cases h
    exact ⟨_, [], rfl, own_nil _ _ _ _, Reps.none _ _, Below.refl _ _⟩
  | some ad =>
    go_wp2_with ((with_reducible refine gate_append (xs := #[.tmp 5, .tmp 6]) rfl ?_); go_loud (refine own_append_all (w0 := w) w.heap.size rfl (.tmp 5) (.tmp 6) 32 9 _ 1 16 rfl Try.underlying32 info9b rfl (by decide) (by decide) _ 0 [] (some ad) xs.length c news rfl rfl (lit0 w w.heap.size 9 1 (Nat.le_refl _)) HN.out HA.out ?aC HONE.out (below_alloc (Below.refl _ _) _) (by simp) (by omega) ?_); (case aC => intro ad' he j u hj; exact pw_cell_below (below_alloc (Below.refl _ _) _) (pw_cell_below HB0.out (HCS.out ad' he j u hj))); intro v1 w1 ho hb hg hat; have HO := Aside0.mk ho; have HB := Aside0.mk hb; clear ho hb hg hat)
    go_ret
    exact ⟨_, news, rfl, by have h := HO.out; rw [Nat.zero_add, List.nil_append] at h; exact h, HR.out, HB.out⟩
set_option maxRecDepth 100000 in
set_option maxHeartbeats 1000000 in
theorem clone72_any (A : Option Addr) (c : Nat) (xs : List Col) (w0 w : World) (hb0 : Below w0.heap.size w0 w) (hC : kCol.C w0 A xs.length xs) (hn : xs.length * 32 ≤ 140737488355328) :
    Calls Try.prog 72 #[.slice A xs.length c] w (Cloned kCol 62 xs w0 w) := by
  obtain ⟨news, hr, hl, hA, hcs⟩ := reads_cells hC
  have h1 := reps_one hr (by decide)
  have heq := Lib.run_eql_slice_nil (P := Try.prog) w 26 62 A xs.length c 0 0 Try.underlying26
  have HR := Aside0.mk hr
  have HN := Lib.hid hl
  have HA := Lib.hid hA
  have HCS := Lib.hid hcs
  have HB0 := Aside0.mk hb0
  have HONE := Lib.hid h1
  clear hr hl hA hcs h1 hb0
  go_enter Try.func72, Try.ntmps72
  cases A with
  | none =>
    go_wp2_with fail
    go_ret
    obtain rfl : xs = [] := by
      cases xs with
      | nil => rfl
      | cons a l => obtain ⟨ad, h⟩ := HA.out (by simp); cases h
    exact ⟨_, [], rfl, own_nil _ _ _ _, Reps.none _ _, Below.refl _ _⟩
  | some ad =>
    go_wp2_with ((with_reducible refine gate_append (xs := #[.tmp 5, .tmp 6]) rfl ?_); go_loud (refine own_append_all (w0 := w) w.heap.size rfl (.tmp 5) (.tmp 6) 26 62 _ 3 32 rfl Try.underlying26 info62b rfl (by decide) (by decide) _ 0 [] (some ad) xs.length c news rfl rfl (lit0 w w.heap.size 62 3 (Nat.le_refl _)) HN.out HA.out ?aC HONE.out (below_alloc (Below.refl _ _) _) (by simp) (by omega) ?_); (case aC => intro ad' he j u hj; exact pw_cell_below (below_alloc (Below.refl _ _) _) (pw_cell_below HB0.out (HCS.out ad' he j u hj))); intro v1 w1 ho hb hg hat; have HO := Aside0.mk ho; have HB := Aside0.mk hb; clear ho hb hg hat)
    go_ret
    exact ⟨_, news, rfl, by have h := HO.out; rw [Nat.zero_add, List.nil_append] at h; exact h, HR.out, HB.out⟩
set_option maxRecDepth 100000 in
set_option maxHeartbeats 1000000 in
theorem clone77_any (A : Option Addr) (c : Nat) (xs : List Prm) (w0 w : World) (hb0 : Below w0.heap.size w0 w) (hC : kPrm.C w0 A xs.length xs) (hn : xs.length * 24 ≤ 140737488355328) :
    Calls Try.prog 77 #[.slice A xs.length c] w (Cloned kPrm 66 xs w0 w) := by
  obtain ⟨news, hr, hl, hA, hcs⟩ := reads_cells hC
  have h1 := reps_one hr (by decide)
  have heq := Lib.run_eql_slice_nil (P := Try.prog) w 31 66 A xs.length c 0 0 Try.underlying31
  have HR := Aside0.mk hr
  have HN := Lib.hid hl
  have HA := Lib.hid hA
  have HCS := Lib.hid hcs
  have HB0 := Aside0.mk hb0
  have HONE := Lib.hid h1
  clear hr hl hA hcs h1 hb0
  go_enter Try.func77, Try.ntmps77
  cases A with
  | none =>
    go_wp2_with fail
    go_ret
    obtain rfl : xs = [] := by
      cases xs with
      | nil => rfl
      | cons a l => obtain ⟨ad, h⟩ := HA.out (by simp); cases h
    exact ⟨_, [], rfl, own_nil _ _ _ _, Reps.none _ _, Below.refl _ _⟩
  | some ad =>
    go_wp2_with ((with_reducible refine gate_append (xs := #[.tmp 5, .tmp 6]) rfl ?_); go_loud (refine own_append_all (w0 := w) w.heap.size rfl (.tmp 5) (.tmp 6) 31 66 _ 2 24 rfl Try.underlying31 info66b rfl (by decide) (by decide) _ 0 [] (some ad) xs.length c news rfl rfl (lit0 w w.heap.size 66 2 (Nat.le_refl _)) HN.out HA.out ?aC HONE.out (below_alloc (Below.refl _ _) _) (by simp) (by omega) ?_); (case aC => intro ad' he j u hj; exact pw_cell_below (below_alloc (Below.refl _ _) _) (pw_cell_below HB0.out (HCS.out ad' he j u hj))); intro v1 w1 ho hb hg hat; have HO := Aside0.mk ho; have HB := Aside0.mk hb; clear ho hb hg hat)
    go_ret
    exact ⟨_, news, rfl, by have h := HO.out; rw [Nat.zero_add, List.nil_append] at h; exact h, HR.out, HB.out⟩
set_option maxRecDepth 100000 in
set_option maxHeartbeats 1000000 in
theorem clone74_any (A : Option Addr) (c : Nat) (xs : List Idx) (w0 w : World) (hb0 : Below w0.heap.size w0 w) (hC : kIdx.C w0 A xs.length xs) (hn : xs.length * 48 ≤ 140737488355328) :
    Calls Try.prog 74 #[.slice A xs.length c] w (Cloned kIdx 64 xs w0 w) := by
  obtain ⟨news, hr, hl, hA, hcs⟩ := reads_cells hC
  have h1 := reps_one hr (by decide)
  have heq := Lib.run_eql_slice_nil (P := Try.prog) w 28 64 A xs.length c 0 0 Try.underlying28
  have HR := Aside0.mk hr
  have HN := Lib.hid hl
  have HA := Lib.hid hA
  have HCS := Lib.hid hcs
  have HB0 := Aside0.mk hb0
  have HONE := Lib.hid h1
  clear hr hl hA hcs h1 hb0
  go_enter Try.func74, Try.ntmps74
  cases A with
  | none =>
    go_wp2_with fail
    go_ret
    obtain rfl : xs = [] := by
      cases xs with
      | nil => rfl
      | cons a l => obtain ⟨ad, h⟩ := HA.out (by simp); cases h
    exact ⟨_, [], rfl, own_nil _ _ _ _, Reps.none _ _, Below.refl _ _⟩
  | some ad =>
    go_wp2_with ((with_reducible refine gate_append (xs := #[.tmp 5, .tmp 6]) rfl ?_); go_loud (refine own_append_all (w0 := w) w.heap.size rfl (.tmp 5) (.tmp 6) 28 64 _ 3 48 rfl Try.underlying28 info64b rfl (by decide) (by decide) _ 0 [] (some ad) xs.length c news rfl rfl (lit0 w w.heap.size 64 3 (Nat.le_refl _)) HN.out HA.out ?aC HONE.out (below_alloc (Below.refl _ _) _) (by simp) (by omega) ?_); (case aC => intro ad' he j u hj; exact pw_cell_below (below_alloc (Below.refl _ _) _) (pw_cell_below HB0.out (HCS.out ad' he j u hj))); intro v1 w1 ho hb hg hat; have HO := Aside0.mk ho; have HB := Aside0.mk hb; clear ho hb hg hat)
    go_ret
    exact ⟨_, news, rfl, by have h := HO.out; rw [Nat.zero_add, List.nil_append] at h; exact h, HR.out, HB.out⟩
/-- A clone of elements without memory of their own is a row of one's own. -/
theorem Cloned.row {α : Type} {d : Kd α} {e : TypeId} {xs : List α} {w0 w w' : World} {v : Value} {news : List Value} (ho : w'.ownsRow w.heap.size e d.sz v xs.length news) (hr : Reps (d.K w0) d.sz xs news) (hb : Below w.heap.size w w')
    (hKM : ∀ x cs, d.K w0 x cs → ∀ (w' : World) (base : Nat) (ok' : Nat → Prop), d.M w' base ok' x cs) : d.R e w' w.heap.size (fun _ => True) v xs :=
  ⟨fun _ _ => trivial, news, ho, hr.imp_ (fun x cs h => hKM x cs h _ _ _)⟩
end Go.Proofs.Ytcmgdieeclninaa
