/- Layer 8: copy of whole elements; the walk of the reference's ints. -/
import Derived.Test.YtcmgdieeclninaaD17
set_option linter.unusedVariables false
set_option linter.unusedSimpArgs false
namespace Go.Proofs.Ytcmgdieeclninaa
open Go.RowKit Go.Proofs.YtcmgdieeclninaaW.PrintWords
theorem run_copy_whole {P : Program} (w : World) (dT sT ty elem : TypeId) (b o dLen dCap : Nat) (a : Addr) (sLen sCap sz : Nat) (cs : List Value)
    (hu : P.underlying dT = some (.slice elem)) (hs : (P.info? elem).map (·.size) = some sz) (hn : cs.length = Nat.min sLen dLen * sz)
    (hsrc : ∀ j v, cs[j]? = some v → w.cell? (a.add j) = some v) (hc : ∀ j, j < cs.length → (w.cell? ⟨b, o + j, none⟩).isSome = true) (hf : ∀ j, j < cs.length → w.frozen? ⟨b, o + j, none⟩ = false) (h1 : ∀ v ∈ cs, v.oneCell' = true) :
    (Builtin.copy_ #[dT, sT] ty #[.slice (some ⟨b, o, none⟩) dLen dCap, .slice (some a) sLen sCap]).run P w = .ok (goInt ((Nat.min sLen dLen : Nat) : Int)) (w.setCells b o cs) := by
  have hl := run_loadCells_list (P := P) w a cs hsrc
  have hst := run_storeCells_cells (P := P) b o cs 0 w (by simpa using hc) (by simpa using hf) h1
  cases hq : P.info? elem with
  | none => simp [hq] at hs
  | some i =>
    have hi : i.size = sz := by simpa [hq] using hs
    rw [hn] at hl
    simp [Builtin.copy_, run_underlying hu, Builtin.lenOf, Builtin.firstCells, sizeOf, typeInfo, hq, hi, hl, hst]
theorem run_copy_zero {P : Program} (w : World) (dT sT ty elem : TypeId) (d a : Option Addr) (dLen dCap sLen sCap sz : Nat) (hu : P.underlying dT = some (.slice elem)) (hs : (P.info? elem).map (·.size) = some sz) (hn : Nat.min sLen dLen = 0) :
    (Builtin.copy_ #[dT, sT] ty #[.slice d dLen dCap, .slice a sLen sCap]).run P w = .ok (goInt 0) w := by
  cases hq : P.info? elem with
  | none => simp [hq] at hs
  | some i =>
    have hl : ∀ (x : Addr), (loadCells x 0).run P w = .ok #[] w := fun x => by simpa using run_loadCells_list (P := P) w x [] (by simp)
    cases d <;> cases a <;> simp [Builtin.copy_, run_underlying hu, Builtin.lenOf, Builtin.firstCells, sizeOf, typeInfo, hq, hn, storeCells, hl]
section
variable {P : Program} {ops : Array Oper} {rest : List Oper} {o : Oper} {a : Act} {Q : Exit → Act → World → Prop} {α : Type}
theorem gate_copy {W : World} {xs : Array Operand} {ts : Array TypeId} (_ho : o.op = .call { callee := .builtin .copy, args := xs, argTypes := ts }) (h : wpList P ops Q (o :: rest) a W) : wpList P ops Q (o :: rest) a W := h
/-- copy(v, ys), v a row of one's own and as long as ys, the elements plain: it is ys' row then. -/
theorem R_copy_all (d : Kd α) {Rr : α → List Value → Prop} {w0 W : World} (base : Nat) (hgd : o.guard = none) (s x : Operand) (t t' e : TypeId)
    (ho : o.op = .call { callee := .builtin .copy, args := #[s, x], argTypes := #[t, t'] }) (ht : P.underlying t = some (.slice e)) (hinfo : (P.info? e).map (·.size) = some d.sz) (hs0 : 0 < d.sz)
    (v : Value) (xs ys : List α) (A : Option Addr) (m c : Nat) (ok : Nat → Prop) (hs : a.eval s = v) (hx : a.eval x = .slice A m c)
    (HO : d.R e W base ok v xs) (hlen : xs.length = ys.length) (HR : ReadsRow Rr d.sz W A m ys) (hKM : ∀ x cs, Rr x cs → ∀ (w' : World) (ok' : Nat → Prop), d.M w' base ok' x cs) (HB : Below base w0 W) (hbase : base ≤ W.heap.size)
    (h : ∀ w1, d.R e w1 base ok v ys → Below base w0 w1 → W.grownBy w1 v.ownBlock → wpList P ops Q rest (a.put o.dst (.int .i64 (m : Int))) w1) :
    wpList P ops Q (o :: rest) a W := by
  have hm : ys.length = m := HR.1
  obtain ⟨hok, inner, hown, hr⟩ := HO
  have fin : ∀ w1, (Builtin.copy_ #[t, t'] o.type #[v, .slice A m c]).run P W = .ok (goInt (m : Int)) w1 → d.R e w1 base ok v ys → W.grownBy w1 v.ownBlock → wpList P ops Q (o :: rest) a W := by
    intro w1 hr hrow hg
    refine wpList_plain hgd fun K hK => ?_
    unfold Oper.wp execOp
    simp only [ho, resolve, invoke, builtin, Sem.run_bind, Sem.run_pure, Result.andThen_ok, List.map_toArray, List.map_cons, List.map_nil, hs, hx, hr]
    exact hK _ _ (h w1 hrow (HB.grown hg hbase (own_base hown)) hg)
  rcases Nat.eq_zero_or_pos m with h0 | hp
  · obtain ⟨A', c', hv⟩ := own_slice hown
    obtain rfl : ys = [] := List.eq_nil_of_length_eq_zero (by omega)
    obtain rfl : xs = [] := List.eq_nil_of_length_eq_zero (by simpa using hlen)
    refine fin W ?_ ⟨hok, inner, hown, hr⟩ (World.grownBy.refl W _)
    subst h0
    rw [hv]
    exact run_copy_zero W t t' o.type e A' A _ c' 0 c d.sz ht hinfo (by simp)
  · obtain ⟨ad, hA, _⟩ := HR.2.2 hp
    subst hA
    obtain ⟨news, hnr, hnc⟩ := ReadsRow.inner_ HR
    have hnM : Reps (fun x cs => Rr x cs) d.sz ys news := hnr
    have hone : ∀ u ∈ news, u.oneCell' = true := by
      intro u hu
      obtain ⟨q, hq, rfl⟩ := List.mem_iff_getElem.1 hu
      have hql : q / d.sz < ys.length := by
        rw [Nat.div_lt_iff_lt_mul hs0]
        rw [← hnM.1]
        exact hq
      have hc := hnM.2 (q / d.sz) _ (List.getElem?_eq_getElem hql)
      refine d.K_one (d.K_of_M (hKM _ _ hc W (fun _ => True))) _ ?_
      rw [List.mem_iff_getElem?]
      refine ⟨q % d.sz, ?_⟩
      rw [List.getElem?_take, if_pos (Nat.mod_lt _ hs0), List.getElem?_drop, Nat.mul_comm, Nat.div_add_mod, List.getElem?_eq_getElem hq]
    rcases hown.2 with ⟨_, hx0⟩ | ⟨g, cap, cur, hv, hb, hh, hnc2, hcm, hcs, htake⟩
    · omega
    have hnl : news.length = m * d.sz := by rw [hnM.1, hm]
    have hxm : xs.length = m := by omega
    have hle : news.length ≤ cur.size := by
      rw [hnl, hcs]
      exact Nat.mul_le_mul_right _ (by omega)
    have hrun := run_copy_whole (P := P) W t t' o.type e g 0 xs.length cap ad m c d.sz news ht hinfo (by rw [hnl, hxm]; simp) hnc
      (fun j hj => by rw [cell_of_row W g _ cur e (0, 0) hh]; simp; omega) (fun j _ => blk_frozen hh _) hone
    obtain ⟨cur', h3, h4, h5⟩ := setCells_row news 0 W cur hh (by omega)
    obtain ⟨s1, s2, s3, s4⟩ := setCells_same g news 0 W
    refine fin _ (by rw [hv, hrun, hxm]; simp) ⟨hok, news, ?_, hnM.imp_ (fun x cs hx => hKM x cs hx _ _)⟩ ⟨s1, s2, s3, by rw [s4]; exact Nat.le_refl _, fun k _ hk => setCells_far _ _ k (fun he => hk (by rw [hv, he]; simp [Value.ownBlock]))⟩
    refine ⟨by rw [hnl, hm], .inr ⟨g, cap, cur', by rw [hv, hlen], hb, h3, by omega, hcm, by rw [h4, hcs], ?_⟩⟩
    rw [h5, List.take_zero, List.nil_append, hm, ← hnl, List.take_left']
    rfl
end
theorem info3 : (Try.prog.info? 3).map (fun i => (i.zero, i.size, i.bytes)) = some (some (.int .i64 0), 1, 8) := by kernel_rfl
theorem size3 : (Try.prog.info? 3).map (·.size) = some 1 := by kernel_rfl
set_option maxRecDepth 100000 in
set_option maxHeartbeats 1000000 in
theorem ints_any (A : Option Addr) (c : Nat) (xs : List Int) (w : World) (hC : (Kd.int .i64).C w A xs.length xs) (hn : xs.length * 8 ≤ 140737488355328) :
    Calls Try.prog 35 #[.slice A xs.length c] w fun e w' => ∃ v, e = .returned v ∧ (Kd.int .i64).R 3 w' w.heap.size (fun _ => True) v xs ∧ Below w.heap.size w w' := by
  have HC := Aside0.mk hC
  clear hC
  go_enter Try.func35, Try.ntmps35
  go_wp2_with (first | (at_make; refine Kd.R_make (Kd.int .i64) (w0 := w) w.heap.size 3 rfl rfl 27 (.tmp 5) (.tmp 5) rfl (xs.length : Int) rfl rfl Try.underlying27 (.int .i64 0) 8 info3 rfl (by decide) (by omega) (0 : Int) (ok := fun _ => True) (okp := fun _ => True) rfl (fun _ _ => trivial) trivial (by omega) (by rw [Int.toNat_natCast]; omega) (Below.refl _ _) (Nat.le_refl _) ?_; intro v1 w1 ho hb hg hat; have HR := Aside0.mk ho; have HB := Aside0.mk hb; clear ho hb hg hat) | ((with_reducible refine gate_copy (xs := #[.tmp 7, .tmp 8]) rfl ?_); go_loud (refine R_copy_all (Kd.int .i64) (Rr := fun x cs => cs = [.int .i64 x]) (w0 := w) w.heap.size rfl (.tmp 7) (.tmp 8) 27 27 3 rfl Try.underlying27 size3 (by decide) v1 _ xs A xs.length c (fun _ => True) rfl rfl HR.out (by rw [List.length_replicate, Int.toNat_natCast]) (Kd.C_below HC.out HB.out) (fun _ _ h _ _ => h) HB.out HB.out.size ?_); intro w2 ho2 hb2 hg2; have HR2 := Aside0.mk ho2; have HB2 := Aside0.mk hb2; clear ho2 hb2 hg2))
  go_ret
  exact ⟨_, rfl, HR2.out, HB2.out⟩
end Go.Proofs.Ytcmgdieeclninaa
