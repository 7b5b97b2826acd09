/- Layer 19: the walk of the reference's Free. -/
import Derived.Test.YtajblhainchplaaJ16
set_option linter.unusedVariables false
set_option linter.unusedSimpArgs false
namespace Go.Proofs.Ytajblhainchplaa
open Go.RowKit Go.Proofs.YtajblhainchplaaW.PrintWords Go.Proofs.YtajblhainchplaaW.PrintLast
theorem addr_add_add' (g i j : Nat) : ((⟨g, 0, none⟩ : Addr).add i).add j = (⟨g, 0, none⟩ : Addr).add (i + j) := by
  simp only [add_plain]
  unfold Addr.add
  by_cases h2 : j = 0
  · subst h2; simp
  · simp [h2]
theorem own_ge {w : World} {base n : Nat} {e : TypeId} {size : Nat} {v : Value} {xs : List Value} (h : w.ownsRow base e size v n xs) (k : Nat) (hk : v.ownBlock = some k) : base ≤ k := by
  rcases h.2 with ⟨rfl, _⟩ | ⟨g, cap, cur, rfl, hg, hh, r⟩
  · simp [Value.ownBlock] at hk
  · have : g = k := by simpa [Value.ownBlock] using hk
    omega
set_option maxRecDepth 100000 in
set_option maxHeartbeats 8000000 in
theorem rfree_any (t : TS) (A : Option Addr) (c : Nat) (base p : Nat) (ok : Nat → Prop) (pos : Int) (w : World) (hN : RNet w base p ok t A c) (hb0 : base ≤ w.heap.size) (hfr : ∀ k, w.heap.size ≤ k → ok k)
    (hs : t.l.length * 32 ≤ 140737488355320) (hS : Srt t) :
    Calls Try.prog 40 #[.pointer (some ⟨p, 0, none⟩), .int .i64 pos] w (RStep base p ok (.int .i64 (t.release pos).1) (t.release pos).2 w) := by
  have HN := Aside0.mk hN
  have HS := Aside0.mk hS
  clear hN hS
  go_enter Try.func40, Try.ntmps40
  go_wp2_with fail
  refine (at_any t A c base p ok pos w HN.out).mono ?_
  rintro e w1 ⟨r, rfl, hr, rfl⟩
  rcases hr.find with ⟨hf, rfl⟩ | ⟨i, hf, rfl, hi⟩
  · have HF := Lib.hid hf
    clear hf hr
    go_wp2_with fail
    go_ret
    exact ⟨by rw [release_no HF.out]; rfl, ⟨A, c, by rw [release_no HF.out]; exact HN.out⟩, Mod.refl _ _⟩
  · have HF := Lib.hid hf
    have HI := Lib.hid hi
    have p0 : ¬ (i : Int) < 0 := by omega
    clear hf hr hi
    go_wp2_with fail
    refine (rwait_any t A c base p ok i w1 HN.out (by omega) HS.out HI.out).mono ?_
    rintro e w2 ⟨v, rfl, hv, hb⟩
    obtain ⟨V, vc, rfl⟩ := Kd.R_slice hv
    obtain ⟨n6, hn6⟩ : ∃ n, n = (keepL (t.l.getD i default) t.l).length := ⟨_, rfl⟩
    rw [← hn6]
    have HN6 := Lib.hid hn6
    have B2 := Aside0.mk hb
    have N2 := Aside0.mk (HN.out.below hb)
    clear hv hb hn6
    by_cases hE : n6 = 0
    · subst hE
      have HE := Lib.hid (keep_nil.1 HN6.out.symm)
      have hb0' : base ≤ w2.heap.size := Nat.le_trans hb0 B2.out.size
      have hi := HI.out
      obtain ⟨g, cap, hv, _, _, _⟩ := Kd.R_form N2.out.row (by omega)
      obtain ⟨rfl, rfl⟩ : A = some ⟨g, 0, none⟩ ∧ c = cap := by injection hv with h1 h2 h3; exact ⟨h1, h3⟩
      have f0 := N2.out.f0
      have hlc := (Kd.R_reads' N2.out.row).2.1
      have hRB := Kd.R_bound N2.out.row
      obtain ⟨_, inner, hown, hreps⟩ := hRB
      have hlen := hown.1
      have hcell : ∀ (j : Nat) u, inner[j]? = some u → w2.cell? ⟨g, j, none⟩ = some u := by
        intro j u hj
        rcases hown.2 with ⟨hv, _⟩ | ⟨g', cap', cur, hv, hb, hh, hnc, hcm, hcs, htake⟩
        · cases hv
        injection hv with ha hn hc
        injection ha with ha
        injection ha with hg
        subst hg
        rw [← htake, List.getElem?_take] at hj
        split at hj
        · have h1 := blk_cell hh j
          rw [h1, ← Array.getElem?_toList]; exact hj
        · cases hj
      have hone : ∀ u ∈ inner, u.oneCell' = true := reps_one (hreps.imp_ (fun _ _ h => kPl.K_of_M h)) (by decide)
      have HLEN := Lib.hid hlen
      have HCELL := Lib.hid hcell
      have HONE := Lib.hid hone
      have HREPS := Aside0.mk hreps
      have q1 : (i : Int) ≤ c := by omega
      have q2 : (0 : Int) ≤ i := by omega
      have q3 : (i : Int) + 1 ≤ t.l.length := by omega
      have q4 : (0 : Int) ≤ (i : Int) + 1 := by omega
      have q5 : (t.l.length : Int) ≤ c := by omega
      have t1 : ((i : Int) + 1).toNat = i + 1 := by omega
      clear hv hown hreps hlen hcell hone
      go_wp2_with (first | ((with_reducible refine gate_append (xs := #[.tmp 19, .tmp 25]) rfl ?_); go_loud (refine own_append_all (w0 := w2) w2.heap.size rfl (.tmp 19) (.tmp 25) 68 76 _ 2 32 rfl Try.underlying68 info76 rfl (by decide) (by decide) (.slice none 0 0) 0 [] (some ⟨g, 0, none⟩) i c (inner.take (i * 2)) rfl rfl (own_nil _ _ _ _) ?aL (fun _ => ⟨_, rfl⟩) ?aC ?aO (Below.refl _ _) (Nat.le_refl _) (by omega) ?_); (case aL => (have h1 : inner.length = t.l.length * 2 := HLEN.out); rw [List.length_take]; omega); (case aC => intro ad he j u hj; obtain rfl := Option.some.inj he; rw [List.getElem?_take] at hj; split at hj; (rw [add_plain]; exact HCELL.out j u hj); cases hj); (case aO => exact fun u hu => HONE.out u (List.mem_of_mem_take hu)); intro v3 w3 ho hb hg hat; have HO3 := Aside0.mk ho; have B3 := Aside0.mk hb; have f3 := pw_cell_below hb f0; clear ho hb hg hat f0) | ((with_reducible refine gate_append (xs := #[.tmp 27, .tmp 34]) rfl ?_); go_loud (refine own_append_all (w0 := w2) w2.heap.size rfl (.tmp 27) (.tmp 34) 68 76 _ 2 32 rfl Try.underlying68 info76 rfl (by decide) (by decide) v3 (0 + i) ([] ++ inner.take (i * 2)) (if c = i + 1 then some ⟨g, 0, none⟩ else some ⟨g, (i + 1) * 2, none⟩) (t.l.length - (i + 1)) (c - (i + 1)) (inner.drop ((i + 1) * 2)) rfl ?aX HO3.out ?aL (fun _ => by split <;> exact ⟨_, rfl⟩) ?aC ?aO B3.out B3.out.size (by omega) ?_); (case aX => rfl); (case aL => (have h1 : inner.length = t.l.length * 2 := HLEN.out); rw [List.length_drop]; omega); (case aC => (have h1 : inner.length = t.l.length * 2 := HLEN.out); intro ad he j u hj; (rw [List.getElem?_drop] at hj); (have h2 := (List.getElem?_eq_some_iff.1 hj).1); (rw [if_neg (by omega)] at he); (obtain rfl := Option.some.inj he); exact pw_cell_below B3.out (by have h3 := HCELL.out _ u hj; rw [← add_plain, ← addr_add_add', add_plain g ((i + 1) * 2)] at h3; exact h3)); (case aO => exact fun u hu => HONE.out u (List.mem_of_mem_drop hu)); intro v4 w4 ho hb hg hat; rw [Nat.zero_add] at ho; obtain ⟨V4, c4, hv4⟩ := own_slice ho; subst hv4; have HO4 := Aside0.mk ho; have B4 := Aside0.mk hb; have HP4 := Aside0.mk (blk_below N2.out.blk hb); have z0 := blk_cell HP4.out 0; have z1 := blk_frozen HP4.out 0; clear ho hb hg hat f3))
      all_goals
        go_ret
        have hlenL : (t.l.eraseIdx i).length = i + (t.l.length - (i + 1)) := by rw [List.length_eraseIdx_of_lt hi]; omega
        have hk : ¬ ∃ q ∈ t.l, Ahead (t.l.getD i default) q := HE.out
        have hge := own_ge HO4.out
        have hR4 : kPl.R 76 w4 base ok (.slice V4 (i + (t.l.length - (i + 1))) c4) (t.l.eraseIdx i) := by
          refine ⟨fun k hk => hfr k (Nat.le_trans B2.out.size (hge k hk)), [] ++ inner.take (i * 2) ++ inner.drop ((i + 1) * 2), ?_, ?_⟩
          · have h1 := own_weaken HO4.out hb0'
            rw [← hlenL] at h1 ⊢
            exact h1
          · rw [List.eraseIdx_eq_take_drop_succ, List.nil_append]
            refine (Kd.reps_append (Kd.reps_take HREPS.out (by omega)) (Kd.reps_drop HREPS.out)).imp_ (fun x cs hx => kPl.M_mono ?_ (kPl.M_move ?_ hx))
            · exact fun k h => ⟨h.1.1, fun he => by have := hge k he.symm; have := h.1.2.2.1; omega⟩
            · exact fun k h => B4.out.block k h.1.2.2.1
        have hR5 := R_set hR4 p 0 (.slice V4 (i + (t.l.length - (i + 1))) c4) N2.out.pok
        refine ⟨by rw [release_ok HF.out hk]; rfl, ⟨V4, c4, ?_⟩, (Mod.of_below (below_then B2.out B2.out.size B4.out)).trans ((mod_setCell w4 p 0 _).mono (fun _ h => .inl h))⟩
        rw [release_ok HF.out hk]
        refine ⟨?_, ?_, N2.out.pb, N2.out.pok, ?_⟩
        · show _ = some (Obj.cells #[.slice V4 (t.l.eraseIdx i).length c4, _] 70 (0, 0)); rw [hlenL]; exact blk_put HP4.out 0 _ rfl
        · show kPl.R 76 _ base ok (.slice V4 (t.l.eraseIdx i).length c4) (t.l.eraseIdx i); rw [hlenL]; exact hR5
        · exact fun x hx => N2.out.bd x (List.mem_of_mem_eraseIdx hx)
    · have p1 : (0 : Int) < n6 := by omega
      have HE := Lib.hid (show ∃ x ∈ t.l, Ahead (t.l.getD i default) x from Classical.not_not.1 (fun h => hE (by rw [HN6.out]; exact keep_nil.2 h)))
      go_wp2_with fail
      go_ret
      exact ⟨by rw [release_kept HF.out HE.out]; rfl, ⟨A, c, by rw [release_kept HF.out HE.out]; exact N2.out⟩, Mod.of_below B2.out⟩
end Go.Proofs.Ytajblhainchplaa
