/- Layer 19: tables of open places; the walks of Clone, Delete, New. -/
import Derived.Test.YtajblhainchplaaJ6
import Derived.Test.YtajblhainchplaaJ4
set_option linter.unusedVariables false
set_option linter.unusedSimpArgs false
namespace Go.Proofs.Ytajblhainchplaa
open Go.RowKit Go.Proofs.YtajblhainchplaaW.PrintWords Go.Proofs.YtajblhainchplaaW.PrintLast
theorem info23 : (Try.prog.info? 23).map (fun i => (i.zero, i.size, i.bytes)) = some (some (.agg #[.int .i64 0, .string ByteArray.empty, .string ByteArray.empty, .bool false]), 4, 48) := by kernel_rfl
theorem size23 : (Try.prog.info? 23).map (·.size) = some 4 := by kernel_rfl
theorem info62 : (Try.prog.info? 62).map (fun i => (i.zero, i.size, i.bytes)) = some (some (.agg #[.int .i64 0, .slice none 0 0]), 2, 32) := by kernel_rfl
theorem info3 : (Try.prog.info? 3).map (fun i => (i.zero, i.size, i.bytes)) = some (some (.int .i64 0), 1, 8) := by kernel_rfl
set_option maxRecDepth 100000 in
set_option maxHeartbeats 1000000 in
theorem clone_any (A : Option Addr) (c : Nat) (xs : List Lk) (w0 w : World) (hb0 : Below w0.heap.size w0 w) (hC : kLk.C w0 A xs.length xs) (hn : xs.length * 48 ≤ 140737488355328) :
    Calls Try.prog 33 #[.slice A xs.length c] w (Cloned kLk 23 xs w0 w) := by
  obtain ⟨news, hr, hl, hA, hcs⟩ := reads_cells hC
  have h1 := reps_one hr (by decide)
  have heq := Lib.run_eql_slice_nil (P := Try.prog) w 29 23 A xs.length c 0 0 Try.underlying29
  have HR := Aside0.mk hr
  have HN := Lib.hid hl
  have HA := Lib.hid hA
  have HCS := Lib.hid hcs
  have HB0 := Aside0.mk hb0
  have HONE := Lib.hid h1
  clear hr hl hA hcs h1 hb0
  go_enter Try.func33, Try.ntmps33
  cases A with
  | none =>
    go_wp2_with fail
    go_ret
    obtain rfl : xs = [] := by
      cases xs with
      | nil => rfl
      | cons a l => obtain ⟨ad, h⟩ := HA.out (by simp); cases h
    exact ⟨_, [], rfl, own_nil _ _ _ _, Reps.none _ _, Below.refl _ _⟩
  | some ad =>
    go_wp2_with ((with_reducible refine gate_append (xs := #[.tmp 5, .tmp 6]) rfl ?_); go_loud (refine own_append_all (w0 := w) w.heap.size rfl (.tmp 5) (.tmp 6) 29 23 _ 4 48 rfl Try.underlying29 info23 rfl (by decide) (by decide) _ 0 [] (some ad) xs.length c news rfl rfl (lit0 w w.heap.size 23 4 (Nat.le_refl _)) HN.out HA.out ?aC HONE.out (below_alloc (Below.refl _ _) _) (by simp) (by omega) ?_); (case aC => intro ad' he j u hj; exact pw_cell_below (below_alloc (Below.refl _ _) _) (pw_cell_below HB0.out (HCS.out ad' he j u hj))); intro v1 w1 ho hb hg hat; have HO := Aside0.mk ho; have HB := Aside0.mk hb; clear ho hb hg hat)
    go_ret
    exact ⟨_, news, rfl, by have h := HO.out; rw [Nat.zero_add, List.nil_append] at h; exact h, HR.out, HB.out⟩

structure TS where
  l : List Plc
  last : Int
/-- The program's table in memory. -/
structure TNet (w : World) (base p : Nat) (ok : Nat → Prop) (t : TS) (A : Option Addr) (c : Nat) : Prop where
  blk : w.heap[p]? = some (.cells #[.slice A t.l.length c, .int .i64 t.last] 58 (0, 0))
  row : kPl.R 62 w base ok (.slice A t.l.length c) t.l
  pb : p < base
  pok : ¬ ok p
  bd : ∀ q ∈ t.l, q.l.length * 48 ≤ 140737488355328
theorem TNet.mod {w w' : World} {base p : Nat} {ok S : Nat → Prop} {t : TS} {A : Option Addr} {c : Nat} (h : TNet w base p ok t A c) (k : Mod w w' S) (hp : ¬ S p) (hS : ∀ i, ok i → ¬ S i) : TNet w' base p ok t A c :=
  ⟨blk_mod h.blk k hp, Kd.R_step h.row (fun i hi hl => k.block i hl (hS i hi)), h.pb, h.pok, h.bd⟩
theorem TNet.below {w w' : World} {base p : Nat} {ok : Nat → Prop} {t : TS} {A : Option Addr} {c : Nat} (h : TNet w base p ok t A c) (k : Below w.heap.size w w') : TNet w' base p ok t A c :=
  h.mod (S := fun _ => False) (Mod.of_below k) (fun h => h) (fun _ _ h => h)
theorem TNet.wide {w : World} {base p : Nat} {ok ok' : Nat → Prop} {t : TS} {A : Option Addr} {c : Nat} (h : TNet w base p ok t A c) (hok : ∀ q, ok q → ok' q) (hp : ¬ ok' p) : TNet w base p ok' t A c :=
  ⟨h.blk, Kd.R_mono h.row hok, h.pb, hp, h.bd⟩
theorem TNet.bound {w : World} {base p : Nat} {ok : Nat → Prop} {t : TS} {A : Option Addr} {c : Nat} (h : TNet w base p ok t A c) : TNet w base p (fun q => ok q ∧ base ≤ q ∧ q < w.heap.size) t A c :=
  ⟨h.blk, Kd.R_mono (Kd.R_bound h.row) (fun q hq => ⟨hq.1, hq.2.1, hq.2.2.1⟩), h.pb, fun hp => h.pok hp.1, h.bd⟩
theorem TNet.f0 {w : World} {base p : Nat} {ok : Nat → Prop} {t : TS} {A : Option Addr} {c : Nat} (h : TNet w base p ok t A c) : w.cell? ⟨p, 0, none⟩ = some (.slice A t.l.length c) := blk_cell h.blk 0
theorem TNet.C {w : World} {base p : Nat} {ok : Nat → Prop} {t : TS} {A : Option Addr} {c : Nat} (h : TNet w base p ok t A c) : kPl.C w A t.l.length t.l := (Kd.R_reads' h.row).2.2
def t0 : TS := ⟨[], -1⟩
set_option maxHeartbeats 400000 in
theorem new_any (w : World) : Calls Try.prog 13 #[] w fun e w' => e = .returned (.pointer (some ⟨w.heap.size, 0, none⟩)) ∧ w'.heap[w.heap.size]? = some (.cells #[.slice none 0 0, .int .i64 (-1)] 58 (0, 0)) ∧ w'.heap.size = w.heap.size + 1 ∧ Below w.heap.size w w' := by
  go_enter Try.func13, Try.ntmps13
  go_wp2_with fail
  go_ret
  exact ⟨rfl, blk_alloc _ _, by simp, below_alloc (Below.refl _ _) _⟩
theorem TNet.start {w : World} {base p : Nat} {ok : Nat → Prop} (h : w.heap[p]? = some (.cells #[.slice none 0 0, .int .i64 (-1)] 58 (0, 0))) (hb : p < base) (hok : ¬ ok p) : TNet w base p ok t0 none 0 :=
  ⟨h, Kd.R_nil _ _ _ _ _, hb, hok, by simp [t0]⟩
/-- What stands behind a row's last element may be written over. -/
theorem R_tail {α : Type} {d : Kd α} {e : TypeId} {base m c g o : Nat} {w : World} {ok : Nat → Prop} {ys : List α} {seg : List Value} (h : d.R e w base ok (.slice (some ⟨g, 0, none⟩) m c) ys) (ho : m * d.sz ≤ o) (hf : o + seg.length ≤ c * d.sz) :
    d.R e (w.setCells g o seg) base ok (.slice (some ⟨g, 0, none⟩) m c) ys := by
  obtain ⟨hm, _, _⟩ := Kd.R_reads' h
  obtain ⟨hok, inner, hown, hr⟩ := h
  rcases hown.2 with ⟨hv, _⟩ | ⟨g', cap', cur, hv, hb, hh, hnc, hcm, hcs, htake⟩
  · cases hv
  injection hv with ha hn hc
  injection ha with ha
  injection ha with hg
  subst hg; subst hc
  obtain ⟨cur', h3, h4, h5⟩ := setCells_row seg o w cur hh (by omega)
  have hfar : ∀ k', k' ≠ g → (w.setCells g o seg).heap[k']? = w.heap[k']? := fun k' hk' => setCells_far seg _ k' hk'
  refine ⟨hok, inner, ⟨hown.1, .inr ⟨g, c, cur', by rw [hn], hb, h3, hnc, hcm, by rw [h4, hcs], ?_⟩⟩, hr.imp_ (fun p q hp => d.M_move (fun k' hk' => hfar k' (fun he => hk'.2 (by rw [he]; simp [Value.ownBlock]))) hp)⟩
  have h6 : ys.length * d.sz ≤ o := by rw [← hm]; exact ho
  have h7 : o ≤ cur.toList.length := by rw [Array.length_toList]; omega
  rw [h5, List.append_assoc, List.take_append_of_le_length (by rw [List.length_take]; omega), List.take_take, Nat.min_eq_left h6]
  exact htake
theorem mod_setCells (w : World) (g o : Nat) (seg : List Value) : Mod w (w.setCells g o seg) (fun q => q = g) := by
  obtain ⟨s1, s2, s3, s4⟩ := setCells_same g seg o w
  exact ⟨s1, s2, s3, by rw [s4]; exact Nat.le_refl _, fun k _ hk => setCells_far seg _ k hk⟩
theorem zero62 (w : World) : (zeroValue 62).run Try.prog w = .ok (.agg #[.int .i64 0, .slice none 0 0]) w := by kernel_rfl
def zeros5 : List Value := [.int .i64 0, .slice none 0 0]
theorem run_clear_one {w : World} {g : Nat} {cur : Array Value} {e : TypeId} (hh : w.heap[g]? = some (.cells cur e (0, 0))) (ty : TypeId) (o c : Nat) (hf : o + 2 ≤ cur.size) :
    (Builtin.clear_ #[56] ty #[.slice (some ⟨g, o, none⟩) 1 c]).run Try.prog w = .ok (.tuple #[]) (w.setCells g o zeros5) := by
  have hst := run_storeCells_cells (P := Try.prog) g o zeros5 0 w (fun j hj => by rw [cell_of_row w g _ cur e (0, 0) hh]; simp [zeros5] at hj ⊢; omega) (fun j _ => blk_frozen hh _) (by intro v hv; simp [zeros5] at hv; rcases hv with rfl | rfl <;> rfl)
  simp only [Nat.add_zero] at hst
  have hz : (Builtin.zeroCells (Value.agg #[.int .i64 0, .slice none 0 0]).cells 1).toList = zeros5 := by kernel_rfl
  simp [Builtin.clear_, run_underlying Try.underlying56, zero62, hz, hst]
set_option maxRecDepth 100000 in
set_option maxHeartbeats 4000000 in
theorem delete_any (base : Nat) (ok : Nat → Prop) (g n c k : Nat) (xs : List Plc) (w : World) (hR : kPl.R 62 w base ok (.slice (some ⟨g, 0, none⟩) n c) xs) (hk : k < n) (hb0 : base ≤ w.heap.size) (hcn : n ≤ 9000000000000000) :
    Calls Try.prog 37 #[.slice (some ⟨g, 0, none⟩) n c, .int .i64 k, .int .i64 ((k : Int) + 1)] w fun e w' => e = .returned (.slice (some ⟨g, 0, none⟩) (n - 1) c) ∧ kPl.R 62 w' base ok (.slice (some ⟨g, 0, none⟩) (n - 1) c) (xs.eraseIdx k) ∧ Mod w w' (fun q => q = g) := by
  have HR := Aside0.mk hR
  have hn : n ≤ c := (Kd.R_reads' hR).2.1
  obtain ⟨cur0, hh0, hcs0⟩ : ∃ cur : Array Value, w.heap[g]? = some (.cells cur 62 (0, 0)) ∧ cur.size = c * 2 := by
    obtain ⟨_, _, hown, _⟩ := hR
    rcases hown.2 with ⟨hv, _⟩ | ⟨g', cap', cur, hv, hb, hh, hnc, hcm, hcs, htake⟩
    · cases hv
    · injection hv with ha hn hc
      injection ha with ha
      injection ha with hg
      subst hg; subst hc
      exact ⟨cur, hh, hcs⟩
  have hcc : c * 2 = cur0.size := hcs0.symm
  have HH0 := Aside0.mk hh0
  have HCC := Lib.hid hcc
  clear hR hh0 hcs0 hcc
  have p0 : (0 : Int) ≤ k := by omega
  have p1 : (k : Int) ≤ (k : Int) + 1 := by omega
  have p2 : (k : Int) + 1 ≤ n := by omega
  have p3 : (n : Int) ≤ c := by omega
  have p4 : ((k : Int) == (k : Int) + 1) = false := int_beq_false (by omega)
  have p5 : (k : Int) ≤ c := by omega
  have p6 : (0 : Int) ≤ (k : Int) + 1 := by omega
  have t1 : ((k : Int) + 1).toNat = k + 1 := by omega
  go_enter Try.func37, Try.ntmps37
  go_wp2_with fail
  refine start_ (n := 8) (S := fun w' => True) (ds := []) #[false, false, false, false, false, false, false, false] (by kernel_rfl) rfl rfl trivial (fun hHeld => ?_)
  refine pure_ (i := 0) (N := some 20) (v := ?_) (a' := ?_) #[true, false, false, false, false, false, false, false] rfl rfl (by kernel_rfl) (fun _ _ _ h => h) (Or.inl ⟨by rfl, ?_⟩) ?_ ?_
  rotate_left
  · intro w'
    go_simp
    with_reducible rfl
  rotate_left
  · simp only [Act.put, List.setIfInBounds_toArray, List.set_cons_zero, List.set_cons_succ, i64_w, i32_w]
    rfl
  refine pure_ (i := 1) (N := some 21) (v := ?_) (a' := ?_) #[true, true, false, false, false, false, false, false] rfl rfl (by kernel_rfl) (fun _ _ _ h => h) (Or.inl ⟨by rfl, ?_⟩) ?_ ?_
  rotate_left
  · intro w'
    go_simp
    with_reducible rfl
  rotate_left
  · simp only [Act.put, List.setIfInBounds_toArray, List.set_cons_zero, List.set_cons_succ, i64_w, i32_w]
    rfl
  refine pure_ (i := 2) (N := some 22) (v := ?_) (a' := ?_) #[true, true, true, false, false, false, false, false] rfl rfl (by kernel_rfl) (fun _ _ _ h => h) (Or.inl ⟨by rfl, ?_⟩) ?_ ?_
  rotate_left
  · intro w'
    go_simp
    with_reducible rfl
  rotate_left
  · simp only [Act.put, List.setIfInBounds_toArray, List.set_cons_zero, List.set_cons_succ, i64_w, i32_w]
    rfl
  refine pure_ (i := 3) (N := some 23) (v := ?_) (a' := ?_) #[true, true, true, true, false, false, false, false] rfl rfl (by kernel_rfl) (fun _ _ _ h => h) (Or.inl ⟨by rfl, ?_⟩) ?_ ?_
  rotate_left
  · intro w'
    go_simp
    with_reducible rfl
  rotate_left
  · simp only [Act.put, List.setIfInBounds_toArray, List.set_cons_zero, List.set_cons_succ, i64_w, i32_w]
    rfl
  refine pure_ (i := 4) (N := some 24) (v := ?_) (a' := ?_) #[true, true, true, true, true, false, false, false] rfl rfl (by kernel_rfl) (fun _ _ _ h => h) (Or.inl ⟨by rfl, ?_⟩) ?_ ?_
  rotate_left
  · intro w'
    go_simp
    with_reducible rfl
  rotate_left
  · simp only [Act.put, List.setIfInBounds_toArray, List.set_cons_zero, List.set_cons_succ, i64_w, i32_w]
    rfl
  refine pure_ (i := 5) (N := some 25) (v := ?_) (a' := ?_) #[true, true, true, true, true, true, false, false] rfl rfl (by kernel_rfl) (fun _ _ _ h => h) (Or.inl ⟨by rfl, ?_⟩) ?_ ?_
  rotate_left
  · intro w'
    go_simp
    with_reducible rfl
  rotate_left
  · simp only [Act.put, List.setIfInBounds_toArray, List.set_cons_zero, List.set_cons_succ, i64_w, i32_w]
    rfl
  refine one_ (i := 6) (N := some 26) #[true, true, true, true, true, true, true, false] rfl rfl (by kernel_rfl) (by decide) (fun K hK => ?_)
  refine Kd.R_delete_step kPl (w0 := w.drew) base (by rfl) (.tmp 22) (.tmp 25) 56 62 rfl Try.underlying56 (by kernel_rfl) (g := g) (n := n) (c := c) (k := k) (m := n - (k + 1)) (c2 := c - (k + 1)) (A := if c = k + 1 then some ⟨g, 0, none⟩ else some ⟨g, (k + 1) * 2, none⟩) (xs := xs) (ok := ok) ?aS ?aX (by rw [Option.map_some, add_plain]; rfl) rfl HR.out hk (Below.refl _ _) hb0 ?_
  case aS => rfl
  case aX => rfl
  intro w1 ho hb hg
  have HO := Aside0.mk ho
  have HG := Aside0.mk hg
  clear ho hb hg
  refine hK.out _ _ trivial (fun hHeld => ?_)
  clear hK K
  refine norm_ (a' := ?_) ?_ ?_
  rotate_left
  · show Act.put _ (some 26) _ = _
    simp only [Act.put, List.setIfInBounds_toArray, List.set_cons_zero, List.set_cons_succ, i64_w, i32_w]
    rfl
  refine pure_ (i := 7) (N := some 0) (v := ?_) (a' := ?_) #[true, true, true, true, true, true, true, true] rfl rfl (by kernel_rfl) (fun _ _ _ h => h) (Or.inl ⟨by rfl, ?_⟩) ?_ ?_
  rotate_left
  · intro w'
    go_simp
    with_reducible rfl
  rotate_left
  · simp only [Act.put, List.setIfInBounds_toArray, List.set_cons_zero, List.set_cons_succ, i64_w, i32_w]
    rfl
  refine done_ (by kernel_rfl) ?_
  have hm1 : Mod w w1 (fun q => q = g) := ⟨HG.out.os, HG.out.tape, HG.out.output, HG.out.size, fun i hi hne => HG.out.block i hi (fun he => hne (by injection he))⟩
  obtain ⟨cur1, hh1, hcs1⟩ : ∃ cur : Array Value, w1.heap[g]? = some (.cells cur 62 (0, 0)) ∧ c * 2 = cur.size := by
    obtain ⟨_, _, hown, _⟩ := HO.out
    rcases hown.2 with ⟨hv, _⟩ | ⟨g', cap', cur, hv, hb, hh, hnc, hcm, hcs, htake⟩
    · cases hv
    · injection hv with ha hn hc
      injection ha with ha
      injection ha with hg
      subst hg; subst hc
      exact ⟨cur, hh, hcs.symm⟩
  have hclr := fun ty => run_clear_one hh1 ty ((n - 1) * 2) (c - (n - 1)) (by omega)
  have hfin := R_tail (o := (n - 1) * 2) (seg := zeros5) HO.out (Nat.le_refl _) (by show (n - 1) * 2 + 2 ≤ c * 2; omega)
  have HFIN := Aside0.mk hfin
  have HM1 := Aside0.mk hm1
  have hcne : ¬ c = n - 1 := by omega
  have t2 : n - (n - 1) = 1 := by omega
  have p7 : ((n - 1 : Nat) : Int) ≤ n := by omega
  have p8 : (0 : Int) ≤ ((n - 1 : Nat) : Int) := by omega
  clear hfin hm1 hh1 hcs1 t1 p1 p4
  go_wp2_with fail
  all_goals
    go_ret
    first
    | exact ⟨rfl, HFIN.out, HM1.out.trans (mod_setCells _ _ _ _)⟩
    | (rename_i h
       subst h
       exact ⟨rfl, HFIN.out, HM1.out.trans (mod_setCells _ _ _ _)⟩)
end Go.Proofs.Ytajblhainchplaa
