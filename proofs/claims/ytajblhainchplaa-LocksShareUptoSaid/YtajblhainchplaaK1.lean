/- General words: blocks, rows that are read and owned, copies and appends of whole rows, what turns and what stays. No program in sight. -/
import Derived.Test.YtajblhainchplaaWWords
import Derived.Test.YtajblhainchplaaWLast
import Derived.Lib.Hide
import Derived.Maps.AppendAt
import Derived.Lib.SliceRun
set_option linter.unusedVariables false
set_option linter.unusedSimpArgs false
namespace Go.Proofs.Ytajblhainchplaa
open Go.RowKit Go.Proofs.YtajblhainchplaaW.PrintWords Go.Proofs.YtajblhainchplaaW.PrintLast
/-- An element's cells. -/
theorem C_at {α : Type} {d : Kd α} {w : World} {A : Option Addr} {n : Nat} {xs : List α} (h : d.C w A n xs) (k : Nat) (hk : k < n) (z : α) :
    ∃ ad c, A = some ad ∧ c.length = d.sz ∧ d.K w (xs.getD k z) c ∧ ∀ j u, c[j]? = some u → w.cell? (ad.add (k * d.sz + j)) = some u := by
  obtain ⟨ad, c, e, h1, h2, h3⟩ := Kd.C_get h z (k : Int) (by omega) (by omega)
  exact ⟨ad, c, e, h1, by simpa using h2, fun j u hj => by simpa using h3 j u hj⟩

theorem ret_bool {a b : Bool} (h : a = b) : Ending.returned (.bool a) = .returned (.bool b) := by rw [h]
theorem val_i64 {a b : Int} (h : a = b) : Value.int .i64 a = .int .i64 b := by rw [h]
/-- The end of a walk over tests: the two truths are one. -/
theorem ret_iff {a : Bool} {p : Prop} [Decidable p] (h : a = true ↔ p) : Ending.returned (.bool a) = .returned (.bool (decide p)) := by
  rw [show a = decide p from by rw [Bool.eq_iff_iff, h, decide_eq_true_iff]]
theorem byte_getD (s : ByteArray) (j : Nat) (h : j < s.size) : s[j] = s.data.toList.getD j 0 := by
  have hl : j < s.data.toList.length := by simpa using h
  rw [List.getD, List.getElem?_eq_getElem hl]
  rfl
theorem mem_getD (s : ByteArray) (j : Nat) (h : j < s.size) : s.data.toList.getD j 0 ∈ s.data.toList := by
  have hl : j < s.data.toList.length := by simpa using h
  rw [List.getD, List.getElem?_eq_getElem hl]
  exact List.getElem_mem hl
theorem ba_ext {a b : ByteArray} (h : a.data.toList = b.data.toList) : a = b := by
  cases a; cases b
  simp only [ByteArray.mk.injEq]
  exact Array.toList_inj.1 h
theorem str_eq_true {a b : ByteArray} (h : a = b) : (a.toList == b.toList) = true := by rw [h]; simp
theorem str_eq_false {a b : ByteArray} (h : a ≠ b) : (a.toList == b.toList) = false := by
  rw [beq_eq_false_iff_ne]
  intro e
  rw [ByteArray.toList_eq, ByteArray.toList_eq] at e
  exact h (ba_ext e)
theorem ba_len (a : ByteArray) : a.data.toList.length = a.size := by simp
theorem str_nil_true {a : ByteArray} (h : a.size = 0) : (a.toList == []) = true := by
  rw [ByteArray.toList_eq, List.eq_nil_of_length_eq_zero (show a.data.toList.length = 0 by rw [ba_len]; exact h)]; rfl
theorem str_nil_false {a : ByteArray} (h : 0 < a.size) : (a.toList == []) = false := by
  rw [beq_eq_false_iff_ne, ByteArray.toList_eq]
  intro e
  have h2 : a.size = 0 := by
    have := congrArg List.length e
    rw [ba_len] at this
    exact this
  omega
/-- Of what was there only the blocks of S may have turned. -/
structure Mod (w w' : World) (S : Nat → Prop) : Prop where
  os : w'.os = w.os
  tape : w'.tape = w.tape
  output : w'.output = w.output
  size : w.heap.size ≤ w'.heap.size
  block : ∀ i, i < w.heap.size → ¬ S i → w'.heap[i]? = w.heap[i]?
theorem Mod.refl (w : World) (S : Nat → Prop) : Mod w w S := ⟨rfl, rfl, rfl, Nat.le_refl _, fun _ _ _ => rfl⟩
theorem Mod.trans {a b c : World} {S : Nat → Prop} (h : Mod a b S) (k : Mod b c S) : Mod a c S :=
  ⟨k.os.trans h.os, k.tape.trans h.tape, k.output.trans h.output, Nat.le_trans h.size k.size, fun i hi hs => (k.block i (Nat.lt_of_lt_of_le hi h.size) hs).trans (h.block i hi hs)⟩
theorem Mod.mono {a b : World} {S S' : Nat → Prop} (h : Mod a b S) (hs : ∀ i, S i → S' i) : Mod a b S' := ⟨h.os, h.tape, h.output, h.size, fun i hi hn => h.block i hi (fun x => hn (hs i x))⟩
theorem Mod.of_below {a b : World} {S : Nat → Prop} (h : Below a.heap.size a b) : Mod a b S := ⟨h.os, h.tape, h.output, h.size, fun i hi _ => h.block i hi⟩
theorem Mod.below {B : Nat} {a b c : World} {S : Nat → Prop} (h : Below B a b) (k : Mod b c S) (hB : B ≤ b.heap.size) (hS : ∀ i, S i → B ≤ i) : Below B a c :=
  h.trans ⟨k.os, k.tape, k.output, k.size, fun i hi => k.block i (by omega) (fun hs => by have := hS i hs; omega)⟩
/-- What lies outside S, or is new, may turn as it likes. -/
theorem Mod.then_new {a b c : World} {S S' : Nat → Prop} (h : Mod a b S) (k : Mod b c S') (hs : ∀ i, i < a.heap.size → S' i → S i) : Mod a c S :=
  ⟨k.os.trans h.os, k.tape.trans h.tape, k.output.trans h.output, Nat.le_trans h.size k.size, fun i hi hn => (k.block i (Nat.lt_of_lt_of_le hi h.size) (fun x => hn (hs i hi x))).trans (h.block i hi hn)⟩
theorem Mod.drewN {a b : World} {S : Nat → Prop} (h : Mod a b S) (n : Nat) : Mod a (b.drewN n) S := ⟨h.os, h.tape, h.output, h.size, h.block⟩
theorem int_at {w : World} {A : Option Addr} {n : Nat} {xs : List Int} (h : (Kd.int .i64).C w A n xs) (k : Nat) (hk : k < n) :
    ∃ ad, A = some ad ∧ w.cell? (ad.add k) = some (.int .i64 (xs.getD k 0)) := by
  obtain ⟨ad, e, hc⟩ := Kd.at_int h (k : Int) (by omega) (by omega)
  exact ⟨ad, e, by simpa [rd] using hc⟩
theorem take_snoc {α : Type} (l : List α) (k : Nat) (d : α) (h : k < l.length) : l.take (k + 1) = l.take k ++ [l.getD k d] := by
  rw [List.take_succ_eq_append_getElem h]
  simp [List.getD, List.getElem?_eq_getElem h]
theorem getD_mem {α : Type} (l : List α) (k : Nat) (d : α) (h : k < l.length) : l.getD k d ∈ l := by
  simp [List.getD, List.getElem?_eq_getElem h]
theorem nodup_snoc {α : Type} (l : List α) (x : α) : (l ++ [x]).Nodup ↔ l.Nodup ∧ ¬ x ∈ l := by
  rw [List.nodup_append]
  constructor
  · rintro ⟨h1, _, h2⟩; exact ⟨h1, fun h => h2 x h x (by simp) rfl⟩
  · rintro ⟨h1, h2⟩; exact ⟨h1, by simp, fun a ha b hb e => by rw [List.mem_singleton] at hb; subst hb; subst e; exact h2 ha⟩
theorem mem_of_getD (l : List UInt8) (P : UInt8 → Prop) (h : ∀ j, j < l.length → P (l.getD j 0)) : ∀ b ∈ l, P b := by
  intro b hb
  obtain ⟨j, hj, rfl⟩ := List.mem_iff_getElem.1 hb
  have := h j hj
  rwa [List.getD, List.getElem?_eq_getElem hj] at this
theorem str_at {w : World} {A : Option Addr} {n : Nat} {xs : List ByteArray} (h : Kd.string.C w A n xs) (k : Nat) (hk : k < n) :
    ∃ ad, A = some ad ∧ w.cell? (ad.add k) = some (.string (xs.getD k ByteArray.empty)) := by
  obtain ⟨ad, e, hc⟩ := Kd.at_string h (k : Int) (by omega) (by omega)
  exact ⟨ad, e, by simpa [rdOf] using hc⟩
theorem blk_mod {w w' : World} {S : Nat → Prop} {g : Nat} {o : Obj} (h : w.heap[g]? = some o) (k : Mod w w' S) (hg : ¬ S g) : w'.heap[g]? = some o := by rw [k.block g (blk_lt h) hg, h]
theorem blk_below {w w' : World} {g : Nat} {o : Obj} (h : w.heap[g]? = some o) (k : Below w.heap.size w w') : w'.heap[g]? = some o := by rw [k.block g (blk_lt h), h]
theorem blk_alloc (w : World) (o : Obj) : (w.alloc o).heap[w.heap.size]? = some o := by show (w.heap.push o)[w.heap.size]? = _; simp
theorem blk_alloc' {w : World} {g : Nat} {o o' : Obj} (h : w.heap[g]? = some o) : (w.alloc o').heap[g]? = some o := by
  rw [Below.heap_alloc _ _ _ (blk_lt h)]; exact h
theorem addr_add2 (a : Addr) (i j : Nat) : (a.add i).add j = a.add (i + j) := by
  unfold Addr.add
  by_cases h1 : i = 0
  · subst h1; simp
  · by_cases h2 : j = 0
    · subst h2; simp
    · have : i + j ≠ 0 := by omega
      simp [h1, h2, this, Nat.add_assoc]
theorem cell_off {w : World} {a : Addr} {i j : Nat} {v : Value} (h : w.cell? (a.add (i + (j + 1))) = some v) : w.cell? { block := (a.add i).block, off := (a.add i).off + (j + 1) } = some v := by
  rw [← addr_add2] at h; exact h
theorem take_map {α β : Type} (f : α → β) (l : List α) (k : Nat) (x : α) (h : l.take (k + 1) = l.take k ++ [x]) : (l.map f).take (k + 1) = (l.map f).take k ++ [f x] := by
  rw [← List.map_take, h, List.map_append, List.map_take]; rfl
theorem str_el {w wr : World} {A : Option Addr} {n : Nat} {xs : List ByteArray} (h : Kd.string.C w A n xs) (hb : Below w.heap.size w wr) (k : Nat) (hk : k < n) :
    ∃ ad x, A = some ad ∧ xs.getD k ByteArray.empty = x ∧ x ∈ xs ∧ xs.take (k + 1) = xs.take k ++ [x] ∧ wr.cell? (ad.add k) = some (.string x) := by
  obtain ⟨ad, rfl, hcell⟩ := str_at h k hk
  have hkl : k < xs.length := by rw [h.1]; exact hk
  exact ⟨ad, _, rfl, rfl, getD_mem xs k _ hkl, take_snoc xs k _ hkl, pw_cell_below hb hcell⟩
theorem int_el {w wr : World} {A : Option Addr} {n : Nat} {xs : List Int} (h : (Kd.int .i64).C w A n xs) (hb : Below w.heap.size w wr) (k : Nat) (hk : k < n) :
    ∃ ad x, A = some ad ∧ xs.getD k 0 = x ∧ x ∈ xs ∧ xs.take (k + 1) = xs.take k ++ [x] ∧ wr.cell? (ad.add k) = some (.int .i64 x) := by
  obtain ⟨ad, rfl, hcell⟩ := int_at h k hk
  have hkl : k < xs.length := by rw [h.1]; exact hk
  exact ⟨ad, _, rfl, rfl, getD_mem xs k _ hkl, take_snoc xs k _ hkl, pw_cell_below hb hcell⟩
theorem take_all {α : Type} {xs ys : List α} {k : Nat} (h : xs.take k = ys.take k) (h1 : xs.length ≤ k) (h2 : ys.length ≤ k) : xs = ys := by
  rwa [List.take_of_length_le h1, List.take_of_length_le h2] at h
theorem take_step {α : Type} {xs ys : List α} {k : Nat} {x y : α} (h : xs.take k = ys.take k) (h1 : xs.take (k + 1) = xs.take k ++ [x]) (h2 : ys.take (k + 1) = ys.take k ++ [y]) (e : x = y) : xs.take (k + 1) = ys.take (k + 1) := by
  rw [h1, h2, h, e]
theorem take_ne {α : Type} {xs ys : List α} {k : Nat} {x y : α} (h1 : xs.take (k + 1) = xs.take k ++ [x]) (h2 : ys.take (k + 1) = ys.take k ++ [y]) (e : ¬ x = y) : ¬ xs = ys := by
  rintro rfl
  rw [h1] at h2
  have := List.append_cancel_left h2
  injection this with h _
  exact e h
theorem len_ne {α : Type} {xs ys : List α} (h : ¬ xs.length = ys.length) : ¬ xs = ys := by rintro rfl; exact h rfl
theorem quiet_add {P : Program} {f : FuncId} {args : Array Value} {w : World} {a n : Nat} {v : Value}
    (h : Calls P f args (w.drewN (a + n)) fun e w' => e = .returned v ∧ ∃ m, w' = (w.drewN (a + n)).drewN m) : Calls P f args (w.drewN (a + n)) fun e w'' => e = .returned v ∧ ∃ m, w'' = w.drewN (a + m) :=
  h.mono fun _ _ ⟨he, m, hm⟩ => ⟨he, n + m, by rw [hm, World.drewN_drewN, Nat.add_assoc]⟩
theorem str_beq (a b : ByteArray) : (a.toList == b.toList) = decide (a = b) := by
  by_cases h : a = b
  · rw [decide_eq_true h]; exact str_eq_true h
  · rw [decide_eq_false h]; exact str_eq_false h
theorem str_bne_false {a b : ByteArray} (h : a = b) : (a.toList != b.toList) = false := by rw [bne, str_eq_true h]; rfl
theorem str_bne_true {a b : ByteArray} (h : ¬ a = b) : (a.toList != b.toList) = true := by rw [bne, str_eq_false h]; rfl
theorem int_beq_true {a b : Int} (h : a = b) : (a == b) = true := by rw [beq_iff_eq]; exact h
theorem int_beq_false {a b : Int} (h : ¬ a = b) : (a == b) = false := by rw [beq_eq_false_iff_ne]; exact h
theorem int_bne_false {a b : Int} (h : a = b) : (a != b) = false := by rw [bne_eq_false_iff_eq]; exact h
theorem int_bne_true {a b : Int} (h : ¬ a = b) : (a != b) = true := by rw [bne_iff_ne]; exact h
theorem run_copy_whole {P : Program} (w : World) (dT sT ty elem : TypeId) (b o dLen dCap : Nat) (a : Addr) (sLen sCap sz : Nat) (cs : List Value)
    (hu : P.underlying dT = some (.slice elem)) (hs : (P.info? elem).map (·.size) = some sz) (hn : cs.length = Nat.min sLen dLen * sz)
    (hsrc : ∀ j v, cs[j]? = some v → w.cell? (a.add j) = some v) (hc : ∀ j, j < cs.length → (w.cell? ⟨b, o + j, none⟩).isSome = true) (hf : ∀ j, j < cs.length → w.frozen? ⟨b, o + j, none⟩ = false) (h1 : ∀ v ∈ cs, v.oneCell' = true) :
    (Builtin.copy_ #[dT, sT] ty #[.slice (some ⟨b, o, none⟩) dLen dCap, .slice (some a) sLen sCap]).run P w = .ok (goInt ((Nat.min sLen dLen : Nat) : Int)) (w.setCells b o cs) := by
  have hl := run_loadCells_list (P := P) w a cs hsrc
  have hst := run_storeCells_cells (P := P) b o cs 0 w (by simpa using hc) (by simpa using hf) h1
  cases hq : P.info? elem with
  | none => simp [hq] at hs
  | some i =>
    have hi : i.size = sz := by simpa [hq] using hs
    rw [hn] at hl
    simp [Builtin.copy_, run_underlying hu, Builtin.lenOf, Builtin.firstCells, sizeOf, typeInfo, hq, hi, hl, hst]
theorem run_copy_zero {P : Program} (w : World) (dT sT ty elem : TypeId) (d a : Option Addr) (dLen dCap sLen sCap sz : Nat) (hu : P.underlying dT = some (.slice elem)) (hs : (P.info? elem).map (·.size) = some sz) (hn : Nat.min sLen dLen = 0) :
    (Builtin.copy_ #[dT, sT] ty #[.slice d dLen dCap, .slice a sLen sCap]).run P w = .ok (goInt 0) w := by
  cases hq : P.info? elem with
  | none => simp [hq] at hs
  | some i =>
    have hl : ∀ (x : Addr), (loadCells x 0).run P w = .ok #[] w := fun x => by simpa using run_loadCells_list (P := P) w x [] (by simp)
    cases d <;> cases a <;> simp [Builtin.copy_, run_underlying hu, Builtin.lenOf, Builtin.firstCells, sizeOf, typeInfo, hq, hn, storeCells, hl]
section
variable {P : Program} {ops : Array Oper} {rest : List Oper} {o : Oper} {a : Act} {Q : Exit → Act → World → Prop} {α : Type}
theorem gate_copy {W : World} {xs : Array Operand} {ts : Array TypeId} (_ho : o.op = .call { callee := .builtin .copy, args := xs, argTypes := ts }) (h : wpList P ops Q (o :: rest) a W) : wpList P ops Q (o :: rest) a W := h
/-- copy(v, ys), v a row of one's own and as long as ys, the elements plain: it is ys' row then. -/
theorem R_copy_all (d : Kd α) {Rr : α → List Value → Prop} {w0 W : World} (base : Nat) (hgd : o.guard = none) (s x : Operand) (t t' e : TypeId)
    (ho : o.op = .call { callee := .builtin .copy, args := #[s, x], argTypes := #[t, t'] }) (ht : P.underlying t = some (.slice e)) (hinfo : (P.info? e).map (·.size) = some d.sz) (hs0 : 0 < d.sz)
    (v : Value) (xs ys : List α) (A : Option Addr) (m c : Nat) (ok : Nat → Prop) (hs : a.eval s = v) (hx : a.eval x = .slice A m c)
    (HO : d.R e W base ok v xs) (hlen : xs.length = ys.length) (HR : ReadsRow Rr d.sz W A m ys) (hKM : ∀ x cs, Rr x cs → ∀ (w' : World) (ok' : Nat → Prop), d.M w' base ok' x cs) (HB : Below base w0 W) (hbase : base ≤ W.heap.size)
    (h : ∀ w1, d.R e w1 base ok v ys → Below base w0 w1 → W.grownBy w1 v.ownBlock → wpList P ops Q rest (a.put o.dst (.int .i64 (m : Int))) w1) :
    wpList P ops Q (o :: rest) a W := by
  have hm : ys.length = m := HR.1
  obtain ⟨hok, inner, hown, hr⟩ := HO
  have fin : ∀ w1, (Builtin.copy_ #[t, t'] o.type #[v, .slice A m c]).run P W = .ok (goInt (m : Int)) w1 → d.R e w1 base ok v ys → W.grownBy w1 v.ownBlock → wpList P ops Q (o :: rest) a W := by
    intro w1 hr hrow hg
    refine wpList_plain hgd fun K hK => ?_
    unfold Oper.wp execOp
    simp only [ho, resolve, invoke, builtin, Sem.run_bind, Sem.run_pure, Result.andThen_ok, List.map_toArray, List.map_cons, List.map_nil, hs, hx, hr]
    exact hK _ _ (h w1 hrow (HB.grown hg hbase (own_base hown)) hg)
  rcases Nat.eq_zero_or_pos m with h0 | hp
  · obtain ⟨A', c', hv⟩ := own_slice hown
    obtain rfl : ys = [] := List.eq_nil_of_length_eq_zero (by omega)
    obtain rfl : xs = [] := List.eq_nil_of_length_eq_zero (by simpa using hlen)
    refine fin W ?_ ⟨hok, inner, hown, hr⟩ (World.grownBy.refl W _)
    subst h0
    rw [hv]
    exact run_copy_zero W t t' o.type e A' A _ c' 0 c d.sz ht hinfo (by simp)
  · obtain ⟨ad, hA, _⟩ := HR.2.2 hp
    subst hA
    obtain ⟨news, hnr, hnc⟩ := ReadsRow.inner_ HR
    have hnM : Reps (fun x cs => Rr x cs) d.sz ys news := hnr
    have hone : ∀ u ∈ news, u.oneCell' = true := by
      intro u hu
      obtain ⟨q, hq, rfl⟩ := List.mem_iff_getElem.1 hu
      have hql : q / d.sz < ys.length := by
        rw [Nat.div_lt_iff_lt_mul hs0]
        rw [← hnM.1]
        exact hq
      have hc := hnM.2 (q / d.sz) _ (List.getElem?_eq_getElem hql)
      refine d.K_one (d.K_of_M (hKM _ _ hc W (fun _ => True))) _ ?_
      rw [List.mem_iff_getElem?]
      refine ⟨q % d.sz, ?_⟩
      rw [List.getElem?_take, if_pos (Nat.mod_lt _ hs0), List.getElem?_drop, Nat.mul_comm, Nat.div_add_mod, List.getElem?_eq_getElem hq]
    rcases hown.2 with ⟨_, hx0⟩ | ⟨g, cap, cur, hv, hb, hh, hnc2, hcm, hcs, htake⟩
    · omega
    have hnl : news.length = m * d.sz := by rw [hnM.1, hm]
    have hxm : xs.length = m := by omega
    have hle : news.length ≤ cur.size := by
      rw [hnl, hcs]
      exact Nat.mul_le_mul_right _ (by omega)
    have hrun := run_copy_whole (P := P) W t t' o.type e g 0 xs.length cap ad m c d.sz news ht hinfo (by rw [hnl, hxm]; simp) hnc
      (fun j hj => by rw [cell_of_row W g _ cur e (0, 0) hh]; simp; omega) (fun j _ => blk_frozen hh _) hone
    obtain ⟨cur', h3, h4, h5⟩ := setCells_row news 0 W cur hh (by omega)
    obtain ⟨s1, s2, s3, s4⟩ := setCells_same g news 0 W
    refine fin _ (by rw [hv, hrun, hxm]; simp) ⟨hok, news, ?_, hnM.imp_ (fun x cs hx => hKM x cs hx _ _)⟩ ⟨s1, s2, s3, by rw [s4]; exact Nat.le_refl _, fun k _ hk => setCells_far _ _ k (fun he => hk (by rw [hv, he]; simp [Value.ownBlock]))⟩
    refine ⟨by rw [hnl, hm], .inr ⟨g, cap, cur', by rw [hv, hlen], hb, h3, by omega, hcm, by rw [h4, hcs], ?_⟩⟩
    rw [h5, List.take_zero, List.nil_append, hm, ← hnl, List.take_left']
    rfl
end
theorem cell_blk (w w' : World) (g i : Nat) (h : w'.heap[g]? = w.heap[g]?) : w'.cell? ⟨g, i, none⟩ = w.cell? ⟨g, i, none⟩ := by simp only [World.cell?, h]
theorem setCell_size (w : World) (a : Addr) (v : Value) : (w.setCell a v).heap.size = w.heap.size := by simp [World.setCell]
theorem mod_setCell (w : World) (g i : Nat) (v : Value) : Mod w (w.setCell ⟨g, i, none⟩ v) (fun k => k = g) :=
  ⟨rfl, rfl, rfl, by rw [setCell_size]; exact Nat.le_refl _, fun k _ hn => Below.heap_setCell w ⟨g, i, none⟩ v k hn⟩
theorem R_set {α : Type} {d : Kd α} {e : Nat} {u : World} {base : Nat} {ok : Nat → Prop} {v : Value} {xs : List α} (h : d.R e u base ok v xs) (g i : Nat) (x : Value) (hg : ¬ ok g) : d.R e (u.setCell ⟨g, i, none⟩ x) base ok v xs :=
  Kd.R_far h (fun k hk e => hg (by have e2 : k = g := e; rw [← e2]; exact hk)) x
theorem run_append_all {P : Program} (W : World) (base : Nat) (t ty e : TypeId) (z : Value) (sz bytes : Nat) (ht : P.underlying t = some (.slice e)) (hinfo : (P.info? e).map (fun i => (i.zero, i.size, i.bytes)) = some (some z, sz, bytes)) (hz : z.cells.size = sz) (hs0 : 0 < sz) (hb0 : 0 < bytes)
    (v : Value) (n : Nat) (xs : List Value) (HO : W.ownsRow base e sz v n xs) (A : Option Addr) (m c : Nat) (news : List Value) (hl : news.length = m * sz) (hA : 0 < m → ∃ ad, A = some ad) (hnews : ∀ ad, A = some ad → ∀ j u, news[j]? = some u → W.cell? (ad.add j) = some u)
    (h1 : ∀ u ∈ news, u.oneCell' = true) (hbase : base ≤ W.heap.size) (hlim : (n + m) * bytes ≤ 140737488355328) :
    ∃ v1 w1, (Builtin.append_ #[t, t] ty #[v, .slice A m c]).run P W = .ok v1 w1 ∧ w1.ownsRow base e sz v1 (n + m) (xs ++ news) ∧ W.grownBy w1 v.ownBlock ∧ (v1.ownBlock = v.ownBlock ∨ v1.ownBlock = some W.heap.size) := by
  obtain ⟨i0, hi, hzz⟩ := Option.map_eq_some_iff.1 hinfo
  simp only [Prod.mk.injEq] at hzz
  obtain ⟨hz0, hz1, hz2⟩ := hzz
  have hlen : n + m ≤ 140737488355328 := Nat.le_trans (Nat.le_mul_of_pos_right _ hb0) hlim
  rcases A with _ | ad
  · have h0 : m = 0 := by
      rcases Nat.eq_zero_or_pos m with h0 | h0
      · exact h0
      · obtain ⟨ad, h⟩ := hA h0
        cases h
    subst h0
    obtain rfl : news = [] := List.eq_nil_of_length_eq_zero (by omega)
    refine ⟨v, W, ?_, by simpa using HO, World.grownBy.refl W _, .inl rfl⟩
    rcases HO.2 with ⟨rfl, hn⟩ | ⟨g, cap, cur, rfl, _, _, hnc, _⟩
    · simp [Builtin.append_, run_underlying ht, sizeOf, typeInfo, hi, Builtin.lenOf, Builtin.firstCells]
    · simp [Builtin.append_, run_underlying ht, sizeOf, typeInfo, hi, Builtin.lenOf, Builtin.firstCells, hnc, storeCells]
  · obtain ⟨v1, w1, hr, h2, h3, _, h5⟩ := run_append_own_at (P := P) W base t ty e i0 z sz bytes ht hi hz0 hz1 hz2 hz hs0 v n xs HO ad m c news hl (hnews ad rfl) h1 (by simp only [maxLen]; omega) hlim hbase
    exact ⟨v1, w1, hr, h2, h3, h5⟩
section
variable {P : Program} {ops : Array Oper} {rest : List Oper} {o : Oper} {a : Act} {Q : Exit → Act → World → Prop} {α : Type}
theorem gate_append {W : World} {xs : Array Operand} {ts : Array TypeId} (_ho : o.op = .call { callee := .builtin .append, args := xs, argTypes := ts }) (h : wpList P ops Q (o :: rest) a W) : wpList P ops Q (o :: rest) a W := h
/-- append(v, ys..), v a row of one's own: cells alone are told. -/
theorem own_append_all {w0 W : World} (base : Nat) (hgd : o.guard = none) (s x : Operand) (t e : TypeId) (z : Value) (sz bytes : Nat)
    (ho : o.op = .call { callee := .builtin .append, args := #[s, x], argTypes := #[t, t] }) (ht : P.underlying t = some (.slice e)) (hinfo : (P.info? e).map (fun i => (i.zero, i.size, i.bytes)) = some (some z, sz, bytes)) (hz : z.cells.size = sz) (hs0 : 0 < sz) (hb0 : 0 < bytes)
    (v : Value) (n : Nat) (xs : List Value) (A : Option Addr) (m c : Nat) (news : List Value) (hs : a.eval s = v) (hx : a.eval x = .slice A m c)
    (HO : W.ownsRow base e sz v n xs) (hl : news.length = m * sz) (hA : 0 < m → ∃ ad, A = some ad) (hnews : ∀ ad, A = some ad → ∀ j u, news[j]? = some u → W.cell? (ad.add j) = some u) (h1 : ∀ u ∈ news, u.oneCell' = true)
    (HB : Below base w0 W) (hbase : base ≤ W.heap.size) (hlim : (n + m) * bytes ≤ 140737488355328)
    (h : ∀ v1 w1, w1.ownsRow base e sz v1 (n + m) (xs ++ news) → Below base w0 w1 → W.grownBy w1 v.ownBlock → (v1.ownBlock = v.ownBlock ∨ v1.ownBlock = some W.heap.size) → wpList P ops Q rest (a.put o.dst v1) w1) :
    wpList P ops Q (o :: rest) a W := by
  obtain ⟨v1, w1, hr, hown, hg, hat⟩ := run_append_all (P := P) W base t o.type e z sz bytes ht hinfo hz hs0 hb0 v n xs HO A m c news hl hA hnews h1 hbase hlim
  refine wpList_plain hgd fun K hK => ?_
  unfold Oper.wp execOp
  simp only [ho, resolve, invoke, builtin, Sem.run_bind, Sem.run_pure, Result.andThen_ok, List.map_toArray, List.map_cons, List.map_nil, hs, hx, hr]
  exact hK _ _ (h v1 w1 hown (HB.grown hg hbase (own_base HO)) hg hat)
end
/-- The cells of a row that is read. -/
theorem reads_cells {α : Type} {R : α → List Value → Prop} {sz : Nat} {w : World} {A : Option Addr} {n : Nat} {ys : List α} (h : ReadsRow R sz w A n ys) :
    ∃ news, Reps R sz ys news ∧ news.length = n * sz ∧ (0 < n → ∃ ad, A = some ad) ∧ ∀ ad, A = some ad → ∀ j u, news[j]? = some u → w.cell? (ad.add j) = some u := by
  rcases Nat.eq_zero_or_pos n with h0 | hp
  · obtain rfl : ys = [] := List.eq_nil_of_length_eq_zero (by rw [h.1, h0])
    exact ⟨[], Reps.none _ _, by simp [h0], fun h => by omega, fun _ _ j u hj => by simp at hj⟩
  · obtain ⟨ad, hA, _⟩ := h.2.2 hp
    subst hA
    obtain ⟨news, hnr, hnc⟩ := ReadsRow.inner_ h
    exact ⟨news, hnr, by rw [hnr.1, h.1], fun _ => ⟨ad, rfl⟩, fun ad' he j u hj => by injection he with he; subst he; exact hnc j u hj⟩
theorem reps_one {α : Type} {d : Kd α} {w : World} {ys : List α} {news : List Value} (h : Reps (d.K w) d.sz ys news) (hs0 : 0 < d.sz) : ∀ u ∈ news, u.oneCell' = true := by
  intro u hu
  obtain ⟨q, hq, rfl⟩ := List.mem_iff_getElem.1 hu
  have hql : q / d.sz < ys.length := by
    rw [Nat.div_lt_iff_lt_mul hs0, ← h.1]
    exact hq
  have hc := h.2 (q / d.sz) _ (List.getElem?_eq_getElem hql)
  refine d.K_one hc _ ?_
  rw [List.mem_iff_getElem?]
  refine ⟨q % d.sz, ?_⟩
  rw [List.getElem?_take, if_pos (Nat.mod_lt _ hs0), List.getElem?_drop, Nat.mul_comm, Nat.div_add_mod, List.getElem?_eq_getElem hq]
/-- What a clone is: cells of one's own that say, in the old world, what the old ones say. -/
def Cloned {α : Type} (d : Kd α) (e : TypeId) (xs : List α) (w0 w : World) (en : Ending) (w' : World) : Prop :=
  ∃ v news, en = .returned v ∧ w'.ownsRow w.heap.size e d.sz v xs.length news ∧ Reps (d.K w0) d.sz xs news ∧ Below w.heap.size w w'
theorem lit0 (W : World) (base : Nat) (e : TypeId) (sz : Nat) (hb : base ≤ W.heap.size) : (W.alloc (.cells #[] e)).ownsRow base e sz (.slice (some ⟨W.heap.size, 0, none⟩) 0 0) 0 [] := by
  have h2 := World.ownsRow_lit (base := base) (e := e) (size := sz) W #[] 0 hb (by simp [maxLen]) (by simp)
  simpa using h2
/-- A clone of elements without memory of their own is a row of one's own. -/
theorem Cloned.row {α : Type} {d : Kd α} {e : TypeId} {xs : List α} {w0 w w' : World} {v : Value} {news : List Value} (ho : w'.ownsRow w.heap.size e d.sz v xs.length news) (hr : Reps (d.K w0) d.sz xs news) (hb : Below w.heap.size w w')
    (hKM : ∀ x cs, d.K w0 x cs → ∀ (w' : World) (base : Nat) (ok' : Nat → Prop), d.M w' base ok' x cs) : d.R e w' w.heap.size (fun _ => True) v xs :=
  ⟨fun _ _ => trivial, news, ho, hr.imp_ (fun x cs h => hKM x cs h _ _ _)⟩
/-- A value's kind: what stays when its content turns. -/
def tag : Value → Value
  | .string _ => .string ⟨#[]⟩
  | .int k _ => .int k 0
  | .bool _ => .bool false
  | v => v
theorem tag_string {v : Value} {s : ByteArray} (h : tag v = tag (.string s)) : ∃ s', v = .string s' := by cases v <;> simp_all [tag]
theorem tag_int {v : Value} {k : IntKind} {n : Int} (h : tag v = tag (.int k n)) : ∃ n', v = .int k n' := by cases v <;> simp_all [tag]
theorem tag_bool {v : Value} {b : Bool} (h : tag v = tag (.bool b)) : ∃ b', v = .bool b' := by cases v <;> simp_all [tag]
theorem tag_slice {v : Value} {A : Option Addr} {n c : Nat} (h : tag v = tag (.slice A n c)) : v = .slice A n c := by cases v <;> simp_all [tag]
/-- There is a cell of a kind. -/
def Has (w : World) (g i : Nat) (t : Value) : Prop := ∃ (cs : Array Value) (e : TypeId) (old : Value), w.heap[g]? = some (Obj.cells cs e (0, 0)) ∧ cs[i]? = some old ∧ tag old = t
theorem Has.cell {w : World} {g i : Nat} {t : Value} (h : Has w g i t) : ∃ v, w.cell? ⟨g, i, none⟩ = some v ∧ tag v = t := by
  obtain ⟨cs, e, old, h1, h2, h3⟩ := h
  exact ⟨old, (blk_cell h1 i).trans h2, h3⟩
theorem Has.slice {w : World} {g i : Nat} {A : Option Addr} {n c : Nat} (h : Has w g i (tag (.slice A n c))) : w.cell? ⟨g, i, none⟩ = some (.slice A n c) := by
  obtain ⟨v, h1, h2⟩ := h.cell
  rw [h1, tag_slice h2]
theorem Has.string {w : World} {g i : Nat} {s : ByteArray} (h : Has w g i (tag (.string s))) : ∃ s', w.cell? ⟨g, i, none⟩ = some (.string s') := by
  obtain ⟨v, h1, h2⟩ := h.cell
  obtain ⟨s', rfl⟩ := tag_string h2
  exact ⟨s', h1⟩
theorem Has.int {w : World} {g i : Nat} {k : IntKind} {n : Int} (h : Has w g i (tag (.int k n))) : ∃ n', w.cell? ⟨g, i, none⟩ = some (.int k n') := by
  obtain ⟨v, h1, h2⟩ := h.cell
  obtain ⟨s', rfl⟩ := tag_int h2
  exact ⟨s', h1⟩
theorem Has.bool {w : World} {g i : Nat} {b : Bool} (h : Has w g i (tag (.bool b))) : ∃ b', w.cell? ⟨g, i, none⟩ = some (.bool b') := by
  obtain ⟨v, h1, h2⟩ := h.cell
  obtain ⟨s', rfl⟩ := tag_bool h2
  exact ⟨s', h1⟩
theorem Has.frozen {w : World} {g i : Nat} {t : Value} (h : Has w g i t) : w.frozen? ⟨g, i, none⟩ = false := by
  obtain ⟨cs, e, old, h1, h2, h3⟩ := h
  exact blk_frozen h1 i
theorem Has.lt {w : World} {g i : Nat} {t : Value} (h : Has w g i t) : g < w.heap.size := by
  obtain ⟨cs, e, old, h1, h2, h3⟩ := h
  exact blk_lt h1
/-- Every cell keeps its kind, and blocks that are not ok stay as they are. -/
structure Kin (w w' : World) (ok : Nat → Prop) : Prop where
  os : w'.os = w.os
  tape : w'.tape = w.tape
  output : w'.output = w.output
  size : w.heap.size ≤ w'.heap.size
  block : ∀ i, i < w.heap.size → ¬ ok i → w'.heap[i]? = w.heap[i]?
  kin : ∀ (g : Nat) (cs : Array Value) (e : TypeId), w.heap[g]? = some (Obj.cells cs e (0, 0)) → ∃ cs' : Array Value, w'.heap[g]? = some (Obj.cells cs' e (0, 0)) ∧ ∀ (i : Nat) (v : Value), cs[i]? = some v → ∃ v' : Value, cs'[i]? = some v' ∧ tag v' = tag v
theorem Kin.refl (w : World) (ok : Nat → Prop) : Kin w w ok := ⟨rfl, rfl, rfl, Nat.le_refl _, fun _ _ _ => rfl, fun g cs e h => ⟨cs, h, fun i v hv => ⟨v, hv, rfl⟩⟩⟩
theorem Kin.has {w w' : World} {ok : Nat → Prop} (k : Kin w w' ok) {g i : Nat} {t : Value} (h : Has w g i t) : Has w' g i t := by
  obtain ⟨cs, e, old, h1, h2, h3⟩ := h
  obtain ⟨cs', h4, h5⟩ := k.kin g cs e h1
  obtain ⟨v', h6, h7⟩ := h5 i old h2
  exact ⟨cs', e, v', h4, h6, h7.trans h3⟩
theorem Kin.below {w0 w w' : World} {ok : Nat → Prop} (k : Kin w0 w ok) (hb : Below w.heap.size w w') : Kin w0 w' ok :=
  ⟨hb.os.trans k.os, hb.tape.trans k.tape, hb.output.trans k.output, Nat.le_trans k.size hb.size, fun i hi hn => (hb.block i (Nat.lt_of_lt_of_le hi k.size)).trans (k.block i hi hn), fun g cs e h => by
    obtain ⟨cs', h1, h2⟩ := k.kin g cs e h
    exact ⟨cs', blk_below h1 hb, h2⟩⟩
theorem Kin.set {w0 w : World} {ok : Nat → Prop} (k : Kin w0 w ok) {g i : Nat} {v : Value} (h : Has w0 g i (tag v)) (hg : ok g) : Kin w0 (w.setCell ⟨g, i, none⟩ v) ok := by
  obtain ⟨cs, e, old, h1, h2, h3⟩ := k.has h
  refine ⟨k.os, k.tape, k.output, by rw [setCell_size]; exact k.size, fun j hj hn => (Below.heap_setCell w ⟨g, i, none⟩ v j (fun he => hn (by have e2 : j = g := he; rw [e2]; exact hg))).trans (k.block j hj hn), fun q cq eq hq => ?_⟩
  obtain ⟨cs', h4, h5⟩ := k.kin q cq eq hq
  by_cases hqg : q = g
  · subst hqg
    rw [h1] at h4
    injection h4 with h4
    injection h4 with h4 h6 h7
    subst h4 h6
    refine ⟨cs.setIfInBounds i v, blk_set h1 i v, fun j u hu => ?_⟩
    obtain ⟨u', h8, h9⟩ := h5 j u hu
    by_cases hji : i = j
    · subst hji
      rw [h2] at h8
      injection h8 with h8
      subst h8
      exact ⟨v, by rw [Array.getElem?_setIfInBounds, if_pos rfl, if_pos (Array.getElem?_eq_some_iff.1 h2).1], by rw [← h3, h9]⟩
    · exact ⟨u', by rw [Array.getElem?_setIfInBounds_ne hji]; exact h8, h9⟩
  · exact ⟨cs', (Below.heap_setCell w ⟨g, i, none⟩ v q hqg).trans h4, h5⟩
theorem Kin.blk {w0 w w' : World} {ok : Nat → Prop} {g : Nat} {o : Obj} (h : w.heap[g]? = some o) (k : Kin w w' ok) (hg : ¬ ok g) : w'.heap[g]? = some o := (k.block g (blk_lt h) hg).trans h
def ShRow (w : World) (ok : Nat → Prop) (el : Nat → Nat → Prop) (v : Value) : Prop := ∃ A n c, v = .slice A n c ∧ n ≤ 9223372036854775807 ∧ (0 < n → ∃ g, A = some ⟨g, 0, none⟩ ∧ ok g ∧ ∀ j, j < n → el g j)
def ShInt (w : World) (ok : Nat → Prop) (v : Value) : Prop := ShRow w ok (fun g j => Has w g j (tag (.int .i64 0))) v
def ShStr (w : World) (ok : Nat → Prop) (v : Value) : Prop := ShRow w ok (fun g j => Has w g j (tag (.string ⟨#[]⟩))) v
theorem ShRow.imp {w w' : World} {ok : Nat → Prop} {el el' : Nat → Nat → Prop} {v : Value} (h : ShRow w ok el v) (hi : ∀ g j, el g j → el' g j) : ShRow w' ok el' v := by
  obtain ⟨A, n, c, rfl, hn, hr⟩ := h
  exact ⟨A, n, c, rfl, hn, fun hp => by obtain ⟨g, h1, h2, h3⟩ := hr hp; exact ⟨g, h1, h2, fun j hj => hi g j (h3 j hj)⟩⟩
theorem ShInt.kin {w w' : World} {ok ok' : Nat → Prop} {v : Value} (h : ShInt w ok v) (k : Kin w w' ok') : ShInt w' ok v := ShRow.imp h (fun _ _ h => k.has h)
theorem ShStr.kin {w w' : World} {ok ok' : Nat → Prop} {v : Value} (h : ShStr w ok v) (k : Kin w w' ok') : ShStr w' ok v := ShRow.imp h (fun _ _ h => k.has h)
theorem sh_of_R {α : Type} {d : Kd α} {e base : Nat} {w : World} {ok : Nat → Prop} {v : Value} {xs : List α} {el : Nat → Nat → Prop} (h : d.R e w base ok v xs)
    (hel : ∀ (g : Nat) (cur : Array Value) (j : Nat) (x : α) (cs : List Value), w.heap[g]? = some (.cells cur e (0, 0)) → d.M w base (fun k => ok k ∧ some k ≠ v.ownBlock) x cs → (∀ i u, cs[i]? = some u → i < d.sz → cur[j * d.sz + i]? = some u) → el g j) : ShRow w ok el v := by
  obtain ⟨hok, inner, hown, hr⟩ := h
  rcases hown.2 with ⟨rfl, hx0⟩ | ⟨g, cap, cur, rfl, hb, hh, hnc2, hcm, hcs, htake⟩
  · exact ⟨none, 0, 0, rfl, by omega, fun h => by omega⟩
  · refine ⟨_, _, _, rfl, Nat.le_trans hnc2 (by simpa [maxLen] using hcm), fun hp => ⟨g, rfl, hok g (by simp [Value.ownBlock]), fun j hj => ?_⟩⟩
    refine hel g cur j _ _ hh (hr.2 j _ (List.getElem?_eq_getElem hj)) (fun i u hu hi => ?_)
    rw [List.getElem?_take, if_pos hi, List.getElem?_drop, ← htake, List.getElem?_take] at hu
    rw [← Array.getElem?_toList]
    split at hu
    · exact hu
    · cases hu
theorem shInt_of {w : World} {base : Nat} {ok : Nat → Prop} {v : Value} {xs : List Int} (h : (Kd.int .i64).R 3 w base ok v xs) : ShInt w ok v :=
  sh_of_R h (fun g cur j x cs hh hM hc => ⟨cur, 3, .int .i64 x, hh, by have h1 : cs = [.int .i64 x] := hM; subst h1; simpa [Kd.int, Kd.scalar] using hc 0 _ rfl (by decide), rfl⟩)
theorem shStr_of {w : World} {base : Nat} {ok : Nat → Prop} {v : Value} {xs : List ByteArray} (h : Kd.string.R 9 w base ok v xs) : ShStr w ok v :=
  sh_of_R h (fun g cur j x cs hh hM hc => ⟨cur, 9, .string x, hh, by have h1 : cs = [.string x] := hM; subst h1; simpa [Kd.string, Kd.scalar] using hc 0 _ rfl (by decide), rfl⟩)
theorem ShRow.at_ {w : World} {ok : Nat → Prop} {el : Nat → Nat → Prop} {A : Option Addr} {n c : Nat} (h : ShRow w ok el (.slice A n c)) (k : Nat) (hk : k < n) : ∃ g, A = some ⟨g, 0, none⟩ ∧ ok g ∧ el g k := by
  obtain ⟨A', n', c', he, hn, hr⟩ := h
  injection he with h1 h2 h3
  subst h1 h2 h3
  obtain ⟨g, h1, h2, h3⟩ := hr (by omega)
  exact ⟨g, h1, h2, h3 k hk⟩
/-- The kinds are kept, and these new blocks are as they are told. -/
def KJ (w wr : World) (ok : Nat → Prop) (L : List (Nat × Obj)) : Prop := Kin w wr ok ∧ ∀ p ∈ L, wr.heap[p.1]? = some p.2 ∧ w.heap.size ≤ p.1
theorem KJ.set {w wr : World} {ok : Nat → Prop} {L : List (Nat × Obj)} (h : KJ w wr ok L) {g i : Nat} {v : Value} (hh : Has w g i (tag v)) (hg : ok g) : KJ w (wr.setCell ⟨g, i, none⟩ v) ok L :=
  ⟨h.1.set hh hg, fun p hp => ⟨(Below.heap_setCell wr ⟨g, i, none⟩ v p.1 (fun he => by have := hh.lt; have h2 := (h.2 p hp).2; have h3 : p.1 = g := he; omega)).trans (h.2 p hp).1, (h.2 p hp).2⟩⟩
theorem KJ.alloc {w wr : World} {ok : Nat → Prop} {L : List (Nat × Obj)} (h : KJ w wr ok L) (o : Obj) : KJ w (wr.alloc o) ok ((wr.heap.size, o) :: L) :=
  ⟨h.1.below (below_alloc (Below.refl _ _) o), fun p hp => by
    rcases List.mem_cons.1 hp with rfl | hp
    · exact ⟨blk_alloc _ _, h.1.size⟩
    · exact ⟨blk_alloc' (h.2 p hp).1, (h.2 p hp).2⟩⟩
theorem KJ.drop {w wr : World} {ok : Nat → Prop} {p : Nat × Obj} {L : List (Nat × Obj)} (h : KJ w wr ok (p :: L)) : KJ w wr ok L := ⟨h.1, fun q hq => h.2 q (List.mem_cons_of_mem _ hq)⟩
theorem KJ.hd {w wr : World} {ok : Nat → Prop} {g : Nat} {o : Obj} {L : List (Nat × Obj)} (h : KJ w wr ok ((g, o) :: L)) : wr.heap[g]? = some o := (h.2 _ List.mem_cons_self).1
theorem KJ.nx {w wr : World} {ok : Nat → Prop} {g : Nat} {o : Obj} {q : Nat × Obj} {L : List (Nat × Obj)} (h : KJ w wr ok (q :: (g, o) :: L)) : wr.heap[g]? = some o := h.drop.hd
/-- What was there stays, and these new blocks are as they are told. -/
def PJ (w wr : World) (L : List (Nat × Obj)) : Prop := Below w.heap.size w wr ∧ ∀ p ∈ L, wr.heap[p.1]? = some p.2 ∧ w.heap.size ≤ p.1
theorem PJ.nil (w : World) : PJ w w [] := ⟨Below.refl _ _, fun p hp => by simp at hp⟩
theorem PJ.below {w wr wr' : World} {L : List (Nat × Obj)} (h : PJ w wr L) (hb : Below wr.heap.size wr wr') : PJ w wr' L :=
  ⟨below_then h.1 h.1.size hb, fun p hp => ⟨blk_below (h.2 p hp).1 hb, (h.2 p hp).2⟩⟩
theorem PJ.alloc {w wr : World} {L : List (Nat × Obj)} (h : PJ w wr L) (o : Obj) : PJ w (wr.alloc o) ((wr.heap.size, o) :: L) :=
  ⟨(h.below (below_alloc (Below.refl _ _) o)).1, fun p hp => by
    rcases List.mem_cons.1 hp with rfl | hp
    · exact ⟨blk_alloc _ _, h.1.size⟩
    · exact ⟨blk_alloc' (h.2 p hp).1, (h.2 p hp).2⟩⟩
theorem PJ.drop {w wr : World} {p : Nat × Obj} {L : List (Nat × Obj)} (h : PJ w wr (p :: L)) : PJ w wr L := ⟨h.1, fun q hq => h.2 q (List.mem_cons_of_mem _ hq)⟩
theorem PJ.hd {w wr : World} {g : Nat} {o : Obj} {L : List (Nat × Obj)} (h : PJ w wr ((g, o) :: L)) : wr.heap[g]? = some o := (h.2 _ List.mem_cons_self).1
theorem PJ.nx {w wr : World} {g : Nat} {o : Obj} {q : Nat × Obj} {L : List (Nat × Obj)} (h : PJ w wr (q :: (g, o) :: L)) : wr.heap[g]? = some o := h.drop.hd
theorem PJ.drewN {w wr : World} {L : List (Nat × Obj)} (h : PJ w wr L) (n : Nat) : PJ w (wr.drewN n) L := ⟨pw_below_drewN h.1 n, h.2⟩
theorem R_up {α : Type} {d : Kd α} {e base N : Nat} {w w' : World} {ok S : Nat → Prop} {v : Value} {xs : List α} (h : d.R e w base ok v xs) (hok : ∀ q, ok q → N ≤ q) (hm : Mod w w' S) (hS : ∀ i, S i → i < N) : d.R e w' base ok v xs :=
  Kd.R_step h (fun q hq hl => hm.block q hl (fun hs => by have := hok q hq; have := hS q hs; omega))
theorem R_block {α : Type} {d : Kd α} {e : Nat} {w : World} {base g : Nat} {ok : Nat → Prop} {xs : List α} {cs : Array Value} (hg : w.heap[g]? = some (.cells cs e (0, 0))) (hb : base ≤ g) (hok : ok g) (hm : xs.length ≤ 9223372036854775807)
    (hr : Reps (d.M w base (fun k => ok k ∧ k ≠ g)) d.sz xs cs.toList) : d.R e w base ok (.slice (some ⟨g, 0, none⟩) xs.length xs.length) xs := by
  refine ⟨fun k hk => ?_, cs.toList, ⟨hr.1, .inr ⟨g, xs.length, cs, rfl, hb, hg, Nat.le_refl _, hm, ?_, ?_⟩⟩, hr.imp_ (fun p c h => d.M_mono (fun k hk => ⟨hk.1, fun he => hk.2 ?_⟩) h)⟩
  · have : g = k := by simpa [Value.ownBlock] using hk
    exact this ▸ hok
  · have := hr.1; simpa using this
  · rw [List.take_of_length_le (by have := hr.1; omega)]
  · simpa [Value.ownBlock] using he
theorem reps1 {α : Type} {R : α → List Value → Prop} {size : Nat} {x : α} {c : List Value} (hl : c.length = size) (h : R x c) : Reps R size [x] c := by
  have := (Reps.none R size).snoc (p := x) h hl
  simpa using this
theorem reps2 {α : Type} {R : α → List Value → Prop} {size : Nat} {x y : α} {c e : List Value} (hl : c.length = size) (h : R x c) (hl2 : e.length = size) (h2 : R y e) : Reps R size [x, y] (c ++ e) := by
  have := ((Reps.none R size).snoc (p := x) h hl).snoc (p := y) h2 hl2
  simpa using this
theorem grow {W : World} {m : Nat} (hs : W.heap.size = m) (cs : Array Value) (e : TypeId) : ∃ u, u = W.alloc (Obj.cells cs e) ∧ u.heap[m]? = some (Obj.cells cs e (0, 0)) ∧ u.heap.size = m + 1 ∧ Below W.heap.size W u := by
  subst hs
  exact ⟨_, rfl, blk_alloc _ _, by simp, below_alloc (Below.refl _ _) _⟩
theorem C_block {α : Type} {d : Kd α} {e : Nat} {w : World} {g : Nat} {xs : List α} {cs : Array Value} (hg : w.heap[g]? = some (.cells cs e (0, 0))) (hm : xs.length ≤ 9223372036854775807)
    (hr : Reps (d.K w) d.sz xs cs.toList) : d.C w (some ⟨g, 0, none⟩) xs.length xs := by
  refine ⟨rfl, hm, fun _ => ⟨_, rfl, fun j p hp => ⟨_, ?_, hr.2 j p hp, fun i u hu => ?_⟩⟩⟩
  · have := d.K_len (hr.2 j p hp)
    exact this
  · have hi : i < d.sz := by
      have h1 := (List.getElem?_eq_some_iff.1 hu).1
      rw [List.length_take] at h1
      omega
    rw [List.getElem?_take_of_lt hi, List.getElem?_drop] at hu
    rw [add_plain, blk_cell hg]
    simpa using hu
end Go.Proofs.Ytajblhainchplaa
