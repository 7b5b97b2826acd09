/- The walk of FrameTorn. -/
import Derived.Test.YtpegcdnkefljdaaC1
set_option linter.unusedVariables false
set_option linter.unusedSimpArgs false
namespace Go.Proofs.Ytpegcdnkefljdaa
open Go.RowKit Go.Proofs.YtpegcdnkefljdaaW.PrintWords
/-- The weight of frames' data. -/
def wsum (l : List ByteArray) : Nat := (l.map fun d => d.size + 6).sum
theorem wsum_snoc (l : List ByteArray) (d : ByteArray) : wsum (l ++ [d]) = wsum l + (d.size + 6) := by simp [wsum]
theorem take_snoc {α : Type} (l : List α) (k : Nat) (d : α) (h : k < l.length) : l.take (k + 1) = l.take k ++ [l.getD k d] := by
  rw [List.take_succ_eq_append_getElem h]
  simp [List.getD, List.getElem?_eq_getElem h]
theorem wsum_take_le (l : List ByteArray) (k : Nat) : wsum (l.take k) ≤ wsum l := by
  have h : wsum l = wsum (l.take k) + wsum (l.drop k) := by
    have := congrArg wsum (List.take_append_drop k l)
    rw [← this]
    simp only [wsum, List.map_append, List.sum_append]
  omega
theorem mem_wsum (l : List ByteArray) (d : ByteArray) (h : d ∈ l) : d.size + 6 ≤ wsum l := by
  induction l with
  | nil => cases h
  | cons x l ih =>
    simp only [wsum, List.map_cons, List.sum_cons]
    cases h with
    | head => omega
    | tail _ h => have := ih h; unfold wsum at this; omega
theorem getD_mem {α : Type} (l : List α) (k : Nat) (d : α) (h : k < l.length) : l.getD k d ∈ l := by
  simp [List.getD, List.getElem?_eq_getElem h]
set_option maxRecDepth 100000 in
set_option maxHeartbeats 4000000 in
theorem torn_law (A : Option Addr) (n c : Nat) (xs : List ByteArray) (last : ByteArray) (piece : Int) (w : World) (hC0 : Kd.string.C w A n xs) (hnc : n ≤ c)
    (hZ : xs.length * 16 ≤ 140737488351232 ∧ ∀ x ∈ xs, x.size ≤ 140737488351232) (hlast : last.size ≤ 140737488351232) (wf : (Lit.int .i64 piece).wf = true) :
    Calls Try.prog 5 #[.slice A n c, .string last, .int .i64 piece] w fun e w' => e = .returned (.bool true) ∧ Below w.heap.size w w' := by
  obtain ⟨hz1, hz2⟩ := hZ
  have hn0 := hC0.1
  have hn1 : n ≤ 140737488351232 := by omega
  have HC := Aside0.mk hC0
  have HZ2 := Lib.hid hz2
  have HN0 := Lib.hid hn0
  have HWF := Lib.hid wf
  clear hC0 hz2 hn0 hz1 wf
  go_enter Try.func5, Try.ntmps5
  go_wp2_with fail
  go_loopg [7, 8] n (fun gn t i wr => ∃ k : Nat, i = .int .i64 k ∧ t = .int .i64 ((n + wsum (xs.take k) : Nat) : Int) ∧ Aside0 (k + gn = n ∧ n + wsum (xs.take k) ≤ 422212465065984 ∧ ∀ j, j < k → (xs.getD j ByteArray.empty).size ≤ 2147483647) ∧ Drawn0 w wr)
  case atStart => exact ⟨0, rfl, by simp [wsum], ⟨by omega, by simp [wsum]; omega, fun j h => absurd h (Nat.not_lt_zero _)⟩, Drawn0.refl _⟩
  case round =>
    obtain ⟨k, rfl, rfl, ⟨hg, hN, hall⟩, ⟨nq, rfl⟩⟩ := hrel
    obtain ⟨N, hNe⟩ : ∃ N, N = n + wsum (xs.take k) := ⟨_, rfl⟩
    rw [← hNe] at hN
    rw [← hNe]
    have HNE := Lib.hid hNe
    have HALL := Lib.hid hall
    have HG := Lib.hid hg
    clear hNe hall hg
    by_cases hNb : N ≤ 2147483647
    · by_cases hk : k < n
      · obtain ⟨ad, rfl, hcell⟩ := str_at HC.out k hk
        have hxz : (xs.getD k ByteArray.empty).size ≤ 140737488351232 := HZ2.out _ (getD_mem _ _ _ (by rw [HN0.out]; exact hk))
        have hts := Lib.hid (take_snoc xs k ByteArray.empty (by rw [HN0.out]; exact hk))
        obtain ⟨x, hx⟩ : ∃ x, x = xs.getD k ByteArray.empty := ⟨_, rfl⟩
        rw [← hx] at hcell hxz hts
        have HX := Lib.hid hx
        clear hx
        have p0 : (0 : Int) ≤ k := by omega
        have p1 : (k : Int) < n := by omega
        by_cases hxb : 2147483647 < x.size
        · go_wp2_with fail
          go_ret
          exact ⟨rfl, Drawn0.below ⟨⟨_, rfl⟩⟩⟩
        · go_wp2_with fail
          go_roundg (n - (k + 1))
          case measure => have := HG.out; omega
          case rel => exact ⟨k + 1, by go_num, by rw [hts.out, wsum_snoc]; have := HNE.out; exact val_i64 (by omega), ⟨by have := HG.out; omega, by rw [hts.out, wsum_snoc]; have := HNE.out; omega, fun j hj => by
            rcases Nat.lt_succ_iff_lt_or_eq.1 hj with h | h
            · exact HALL.out j h
            · rw [h, ← HX.out]; omega⟩, ⟨⟨_, rfl⟩⟩⟩
      · by_cases hlb : last.size ≤ 2147483647
        · have hws : n + wsum xs ≤ 2147483647 := by
            have h1 := HNE.out
            rw [List.take_of_length_le (by rw [HN0.out]; omega)] at h1
            omega
          have hall2 := Lib.hid (fun j (hj : j < n) => HALL.out j (by omega))
          have HWS := Lib.hid hws
          clear hws HALL HNE
          go_wp2_with fail
          refine (awake_any _).mono ?_
          rintro e1 w1 ⟨rfl, hb1⟩
          have hB1 := Aside0.mk (show Below w.heap.size w w1 from below_then (Drawn0.below ⟨⟨nq, rfl⟩⟩) (Nat.le_refl _) hb1)
          clear hb1
          go_wp2_with fail
          go_loopg [10, 11] n (fun gn v i wr => ∃ k : Nat, i = .int .i64 k ∧ Aside0 (k + gn = n ∧ ∀ x ∈ xs.take k, x.size ≤ 4096) ∧ Aside0 (wr.ownsRow w.heap.size 5 1 v (bytesOf (catW (xs.take k))).length (nums .u8 (bytesOf (catW (xs.take k))))) ∧ Aside0 (Below w.heap.size w wr))
          case atStart => exact ⟨0, rfl, ⟨by omega, by simp⟩, ⟨own_nil _ _ _ _⟩, hB1⟩
          case round =>
            clear hB1
            obtain ⟨k2, rfl, ⟨hg2, hall3⟩, hO, hB⟩ := hrel
            have HG2 := Lib.hid hg2
            have HALL3 := Lib.hid hall3
            clear hg2 hall3
            by_cases hk2 : k2 < n
            · obtain ⟨ad, rfl, hcell0⟩ := str_at HC.out k2 hk2
              have hxz := hall2.out k2 hk2
              have hts := Lib.hid (take_snoc xs k2 ByteArray.empty (by rw [HN0.out]; exact hk2))
              have hcell := pw_cell_below hB.out hcell0
              clear hcell0
              obtain ⟨x, hx⟩ : ∃ x, x = xs.getD k2 ByteArray.empty := ⟨_, rfl⟩
              rw [← hx] at hcell hxz hts
              have HX := Lib.hid hx
              clear hx
              have p0 : (0 : Int) ≤ k2 := by omega
              have p1 : (k2 : Int) < n := by omega
              by_cases hx4 : 4096 < x.size
              · go_wp2_with fail
                refine (wrap_long x _ (by omega) hx4).mono ?_
                rintro e3 w3 ⟨rfl, hb3⟩
                have hcell3 := pw_cell_below hb3 hcell
                have hB3 := Aside0.mk (below_then hB.out hB.out.size hb3)
                clear hcell hb3
                go_wp2_with fail
                go_ret
                exact ⟨rfl, hB3.out⟩
              · go_wp2_with fail
                refine (wrap_any x _ (by omega)).mono ?_
                rintro e3 w3 ⟨rfl, hb3⟩
                have hcell3 := pw_cell_below hb3 hcell
                have hB3 := Aside0.mk (below_then hB.out hB.out.size hb3)
                have hO3 := Aside0.mk (pw_own_below hO.out hb3)
                clear hcell hb3 hB hO
                have hcs : (bytesOf (catW (xs.take k2))).length + (wrapB x).size ≤ 140737488355328 := by
                  rw [bytesOf_length, catW_size, wrapB_size]
                  have h1 := wsum_take_le xs k2
                  have h2 := HWS.out
                  have h3 : ((xs.take k2).map fun d => d.size + 6).sum = wsum (xs.take k2) := rfl
                  omega
                obtain ⟨t, ht⟩ : ∃ t, t = wrapB x := ⟨_, rfl⟩
                rw [← ht] at hcs
                rw [← ht]
                have HT := Lib.hid ht
                have HCS := Lib.hid hcs
                clear ht hcs
                go_wp2_with (at_builtin; refine print_append_str (w0 := w) w.heap.size rfl (.tmp 86) (.tmp 87) 36 9 5 rfl Try.underlying36 Try.underlying9 info5 _ (bytesOf (catW (xs.take k2))) t rfl rfl hO3.out hB3.out hB3.out.size HCS.out ?_; intro v1 w4 ho4 hb4 hg4; have hO4 := Aside0.mk ho4; have hB4 := Aside0.mk hb4; clear ho4 hb4 hg4)
                go_roundg (n - (k2 + 1))
                case measure => have := HG2.out; omega
                case rel => exact ⟨k2 + 1, by go_num, ⟨by have := HG2.out; omega, fun y hy => by
                  rw [hts.out, List.mem_append, List.mem_singleton] at hy
                  rcases hy with h | h
                  · exact HALL3.out y h
                  · rw [h]; omega⟩, ⟨by rw [hts.out, catW_snoc, bytesOf_append, ← HT.out]; exact hO4.out⟩, hB4⟩
            · have hk3 : xs.take k2 = xs := List.take_of_length_le (by rw [HN0.out]; omega)
              rw [hk3] at hO
              have hall4 := Lib.hid (fun x (hx : x ∈ xs) => HALL3.out x (by rw [hk3]; exact hx))
              clear hk3 HALL3
              obtain ⟨b, hb⟩ : ∃ b, b = catW xs := ⟨_, rfl⟩
              rw [← hb] at hO
              have hbs : b.size ≤ 2147483647 := by
                rw [hb, catW_size]
                have h2 := HWS.out
                have h3 : (xs.map fun d => d.size + 6).sum = wsum xs := rfl
                omega
              have HB := Lib.hid hb
              clear hb
              obtain ⟨bv, hbv⟩ : ∃ bv, bv = bytesOf b := ⟨_, rfl⟩
              rw [← hbv] at hO
              have hbl : bv.length = b.size := by rw [hbv, bytesOf_length]
              obtain ⟨A4, c4, rfl, hRI⟩ := own_reads hO.out
              clear hRI
              rw [hbl] at hO
              have HBV := Lib.hid hbv
              have HBL := Lib.hid hbl
              clear hbv hbl
              by_cases hl4 : last.size ≤ 4096
              · go_wp2_with fail
                refine (wrap_any last _ hl4).mono ?_
                rintro e5 w5 ⟨rfl, hb5⟩
                have hB5 := Aside0.mk (below_then hB.out hB.out.size hb5)
                have hO5 := Aside0.mk (pw_own_below hO.out hb5)
                clear hB hO hb5
                obtain ⟨t, ht⟩ : ∃ t, t = wrapB last := ⟨_, rfl⟩
                have hts : t.size = 6 + last.size := by rw [ht, wrapB_size]
                rw [← ht]
                have HT := Lib.hid ht
                have hE := str_eq_false (show t ≠ ⟨#[]⟩ from fun h => by have h9 := congrArg ByteArray.size h; have h8 : (ByteArray.mk #[]).size = 0 := rfl; omega)
                have hE2 : (t.toList == []) = false := by rw [ByteArray.toList_eq] at hE ⊢; rw [ByteArray.toList_eq] at hE; exact hE
                clear hE
                obtain ⟨q, hq⟩ : ∃ q, Int.tmod piece (t.size : Int) = q := ⟨_, rfl⟩
                have hq0 : -(t.size : Int) < q := by rw [← hq]; exact Int.lt_tmod_of_pos _ (by omega)
                have hq1 : q < (t.size : Int) := by rw [← hq]; exact Int.tmod_lt_of_pos _ (by omega)
                have ht6 : 6 ≤ t.size := by omega
                have ht7 : t.size ≤ 4102 := by omega
                have ht0 : ((t.size : Int) == 0) = false := by rw [beq_eq_false_iff_ne]; omega
                clear ht hts
                by_cases hqn : q < 0
                · obtain ⟨kN, hkN⟩ : ∃ kN : Nat, q = kN - t.size := ⟨(q + t.size).toNat, by omega⟩
                  subst hkN
                  have hkk : kN < t.size := by omega
                  have hsum : (kN : Int) - t.size + t.size = kN := by omega
                  have hy : (t.extract 0 kN).size = kN := by rw [ByteArray.size_extract]; omega
                  have hcs : bv.length + (t.extract 0 kN).size ≤ 140737488355328 := by rw [hy, HBL.out]; omega
                  have HCS := Lib.hid hcs
                  clear hcs
                  have k0 : (0 : Int) ≤ kN := by omega
                  have k1 : (kN : Int) ≤ t.size := by omega
                  rw [← HBL.out] at hO5
                  obtain ⟨S, hS⟩ : ∃ S, S = b ++ t.extract 0 kN := ⟨_, rfl⟩
                  have hS2 : strOfNums (bv ++ bytesOf (t.extract 0 kN)) = S := by rw [HBV.out, ← bytesOf_append, strOfNums_bytesOf, hS]
                  have hSz : S.size ≤ 4294967296 := by rw [hS, append_size', hy]; omega
                  have hFr : Fr S 0 xs bv.length := by
                    have h1 := Fr.cat (Fr.cut last kN hl4 (by rw [← HT.out]; exact hkk)) xs hall4.out
                    rw [List.append_nil, Nat.add_zero, ← HB.out, ← HT.out, ← hS, ← HBL.out] at h1
                    exact h1
                  have HFR := Lib.hid hFr
                  have HS2 := Lib.hid hS2
                  clear hS hS2 hFr hy
                  go_wp2_with (at_builtin; refine print_append_str (w0 := w) w.heap.size rfl (.tmp 110) (.tmp 113) 36 9 5 rfl Try.underlying36 Try.underlying9 info5 _ bv (t.extract 0 kN) rfl rfl hO5.out hB5.out hB5.out.size HCS.out ?_; intro v1 w6 ho6 hb6 hg6; have hO6 := Aside0.mk ho6; have hB6 := Aside0.mk hb6; have hcv := own_string (P := Try.prog) Try.underlying36 Try.underlying5 Try.underlying9 hO6.out; rw [HS2.out] at hcv; clear ho6 hb6 hg6)
                  refine (all_any S _ hSz xs bv.length HFR.out).mono ?_
                  rintro e7 w7 ⟨v7, rfl, hR7, hb7⟩
                  have hB7 := below_then hB6.out hB6.out.size hb7
                  obtain ⟨A7, c7, rfl, hlc7, hC7⟩ := Kd.R_reads hR7
                  clear hR7 hcv hb7
                  have hCx := Kd.C_below HC.out hB7
                  have HB7 := Aside0.mk hB7
                  clear hB7
                  go_wp2_with fail
                  refine (same_any A7 A _ n c7 c xs xs _ hC7 hCx).mono ?_
                  rintro e8 w8 ⟨rfl, hd8⟩
                  clear hC7 hCx
                  rw [decide_eq_true rfl]
                  have HB8 := Aside0.mk (below_then HB7.out HB7.out.size hd8.below)
                  clear HB7 hd8
                  go_wp2_with fail
                  go_ret
                  exact ⟨rfl, HB8.out⟩
                · obtain ⟨kN, rfl⟩ : ∃ kN : Nat, q = kN := ⟨q.toNat, by omega⟩
                  have hkk : kN < t.size := by omega
                  have hy : (t.extract 0 kN).size = kN := by rw [ByteArray.size_extract]; omega
                  have hcs : bv.length + (t.extract 0 kN).size ≤ 140737488355328 := by rw [hy, HBL.out]; omega
                  have HCS := Lib.hid hcs
                  clear hcs
                  have k0 : (0 : Int) ≤ kN := by omega
                  have k1 : (kN : Int) ≤ t.size := by omega
                  rw [← HBL.out] at hO5
                  obtain ⟨S, hS⟩ : ∃ S, S = b ++ t.extract 0 kN := ⟨_, rfl⟩
                  have hS2 : strOfNums (bv ++ bytesOf (t.extract 0 kN)) = S := by rw [HBV.out, ← bytesOf_append, strOfNums_bytesOf, hS]
                  have hSz : S.size ≤ 4294967296 := by rw [hS, append_size', hy]; omega
                  have hFr : Fr S 0 xs bv.length := by
                    have h1 := Fr.cat (Fr.cut last kN hl4 (by rw [← HT.out]; exact hkk)) xs hall4.out
                    rw [List.append_nil, Nat.add_zero, ← HB.out, ← HT.out, ← hS, ← HBL.out] at h1
                    exact h1
                  have HFR := Lib.hid hFr
                  have HS2 := Lib.hid hS2
                  clear hS hS2 hFr hy
                  go_wp2_with (at_builtin; refine print_append_str (w0 := w) w.heap.size rfl (.tmp 110) (.tmp 113) 36 9 5 rfl Try.underlying36 Try.underlying9 info5 _ bv (t.extract 0 kN) rfl rfl hO5.out hB5.out hB5.out.size HCS.out ?_; intro v1 w6 ho6 hb6 hg6; have hO6 := Aside0.mk ho6; have hB6 := Aside0.mk hb6; have hcv := own_string (P := Try.prog) Try.underlying36 Try.underlying5 Try.underlying9 hO6.out; rw [HS2.out] at hcv; clear ho6 hb6 hg6)
                  refine (all_any S _ hSz xs bv.length HFR.out).mono ?_
                  rintro e7 w7 ⟨v7, rfl, hR7, hb7⟩
                  have hB7 := below_then hB6.out hB6.out.size hb7
                  obtain ⟨A7, c7, rfl, hlc7, hC7⟩ := Kd.R_reads hR7
                  clear hR7 hcv hb7
                  have hCx := Kd.C_below HC.out hB7
                  have HB7 := Aside0.mk hB7
                  clear hB7
                  go_wp2_with fail
                  refine (same_any A7 A _ n c7 c xs xs _ hC7 hCx).mono ?_
                  rintro e8 w8 ⟨rfl, hd8⟩
                  clear hC7 hCx
                  rw [decide_eq_true rfl]
                  have HB8 := Aside0.mk (below_then HB7.out HB7.out.size hd8.below)
                  clear HB7 hd8
                  go_wp2_with fail
                  go_ret
                  exact ⟨rfl, HB8.out⟩
              · go_wp2_with fail
                refine (wrap_long last _ (by omega) (by omega)).mono ?_
                rintro e5 w5 ⟨rfl, hb5⟩
                have hB5 := Aside0.mk (below_then hB.out hB.out.size hb5)
                have hO5 := Aside0.mk (pw_own_below hO.out hb5)
                clear hB hO hb5
                obtain ⟨S, hS⟩ : ∃ S, S = b := ⟨_, rfl⟩
                have hS2 : strOfNums bv = S := by rw [HBV.out, strOfNums_bytesOf, hS]
                have hSz : S.size ≤ 4294967296 := by rw [hS]; omega
                have hFr : Fr S 0 xs bv.length := by
                  have h1 := Fr.cat Fr.none xs hall4.out
                  rw [List.append_nil, Nat.add_zero, ← HB.out, append_empty', ← HBL.out, ← hS] at h1
                  exact h1
                have HFR := Lib.hid hFr
                rw [← HBL.out] at hO5
                have hcv := own_string (P := Try.prog) Try.underlying36 Try.underlying5 Try.underlying9 hO5.out
                rw [hS2] at hcv
                clear hS hS2 hFr
                go_wp2_with fail
                refine (all_any S _ hSz xs bv.length HFR.out).mono ?_
                rintro e7 w7 ⟨v7, rfl, hR7, hb7⟩
                have hB7 := below_then hB5.out hB5.out.size hb7
                obtain ⟨A7, c7, rfl, hlc7, hC7⟩ := Kd.R_reads hR7
                clear hR7 hcv hb7
                have hCx := Kd.C_below HC.out hB7
                have HB7 := Aside0.mk hB7
                clear hB7
                go_wp2_with fail
                refine (same_any A7 A _ n c7 c xs xs _ hC7 hCx).mono ?_
                rintro e8 w8 ⟨rfl, hd8⟩
                clear hC7 hCx
                rw [decide_eq_true rfl]
                have HB8 := Aside0.mk (below_then HB7.out HB7.out.size hd8.below)
                clear HB7 hd8
                go_wp2_with fail
                go_ret
                exact ⟨rfl, HB8.out⟩
        · go_wp2_with fail
          go_ret
          exact ⟨rfl, Drawn0.below ⟨⟨_, rfl⟩⟩⟩
    · by_cases hk : k < n
      · go_wp2_with fail
        go_ret
        exact ⟨rfl, Drawn0.below ⟨⟨_, rfl⟩⟩⟩
      · go_wp2_with fail
        go_ret
        exact ⟨rfl, Drawn0.below ⟨⟨_, rfl⟩⟩⟩
end Go.Proofs.Ytpegcdnkefljdaa
