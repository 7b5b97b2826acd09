/- The walk of FrameJoins. -/
import Derived.Test.YtpegcdnkefljdaaL3
set_option linter.unusedVariables false
set_option linter.unusedSimpArgs false
namespace Go.Proofs.Ytpegcdnkefljdaa
open Go.RowKit Go.Proofs.YtpegcdnkefljdaaW.PrintWords
set_option maxRecDepth 100000 in
set_option maxHeartbeats 4000000 in
theorem joins_law (A : Option Addr) (n c : Nat) (xs : List ByteArray) (rest : ByteArray) (w : World) (hC0 : Kd.string.C w A n xs) (hnc : n ≤ c)
    (hZ : xs.length * 16 ≤ 140737488351232 ∧ ∀ x ∈ xs, x.size ≤ 140737488351232) (hlast : rest.size ≤ 140737488351232) :
    Calls Try.prog 7 #[.slice A n c, .string rest] w fun e w' => e = .returned (.bool true) ∧ Below w.heap.size w w' := by
  obtain ⟨hz1, hz2⟩ := hZ
  have hn0 := hC0.1
  have hn1 : n ≤ 140737488351232 := by omega
  have HC := Aside0.mk hC0
  have HZ2 := Lib.hid hz2
  have HN0 := Lib.hid hn0
  clear hC0 hz2 hn0 hz1
  go_enter Try.func7, Try.ntmps7
  go_wp2_with fail
  go_loopg [5, 6] n (fun gn t i wr => ∃ k : Nat, i = .int .i64 k ∧ t = .int .i64 ((n + wsum (xs.take k) : Nat) : Int) ∧ Aside0 (k + gn = n ∧ n + wsum (xs.take k) ≤ 422212465065984 ∧ ∀ j, j < k → (xs.getD j ByteArray.empty).size ≤ 4096) ∧ Drawn0 w wr)
  case atStart => exact ⟨0, rfl, by simp [wsum], ⟨by omega, by simp [wsum]; omega, fun j h => absurd h (Nat.not_lt_zero _)⟩, Drawn0.refl _⟩
  case round =>
    obtain ⟨k, rfl, rfl, ⟨hg, hN, hall⟩, ⟨nq, rfl⟩⟩ := hrel
    obtain ⟨N, hNe⟩ : ∃ N, N = n + wsum (xs.take k) := ⟨_, rfl⟩
    rw [← hNe] at hN
    rw [← hNe]
    have HNE := Lib.hid hNe
    have HALL := Lib.hid hall
    have HG := Lib.hid hg
    clear hNe hall hg
    by_cases hNb : N ≤ 2147483647
    · by_cases hk : k < n
      · obtain ⟨ad, rfl, hcell⟩ := str_at HC.out k hk
        have hxz : (xs.getD k ByteArray.empty).size ≤ 140737488351232 := HZ2.out _ (getD_mem _ _ _ (by rw [HN0.out]; exact hk))
        have hts := Lib.hid (take_snoc xs k ByteArray.empty (by rw [HN0.out]; exact hk))
        obtain ⟨x, hx⟩ : ∃ x, x = xs.getD k ByteArray.empty := ⟨_, rfl⟩
        rw [← hx] at hcell hxz hts
        have HX := Lib.hid hx
        clear hx
        have p0 : (0 : Int) ≤ k := by omega
        have p1 : (k : Int) < n := by omega
        by_cases hxb : 4096 < x.size
        · go_wp2_with fail
          go_ret
          exact ⟨rfl, Drawn0.below ⟨⟨_, rfl⟩⟩⟩
        · go_wp2_with fail
          go_roundg (n - (k + 1))
          case measure => have := HG.out; omega
          case rel => exact ⟨k + 1, by go_num, by rw [hts.out, wsum_snoc]; have := HNE.out; exact val_i64 (by omega), ⟨by have := HG.out; omega, by rw [hts.out, wsum_snoc]; have := HNE.out; omega, fun j hj => by
            rcases Nat.lt_succ_iff_lt_or_eq.1 hj with h | h
            · exact HALL.out j h
            · rw [h, ← HX.out]; omega⟩, ⟨⟨_, rfl⟩⟩⟩
      · by_cases hlb : N ≤ 1073741823 ∧ rest.size ≤ 1073741823
        · obtain ⟨hlb1, hlb2⟩ := hlb
          have hws : n + wsum xs ≤ 1073741823 := by
            have h1 := HNE.out
            rw [List.take_of_length_le (by rw [HN0.out]; omega)] at h1
            omega
          have hall2 := Lib.hid (fun j (hj : j < n) => HALL.out j (by omega))
          have HWS := Lib.hid hws
          clear hws HALL HNE
          go_wp2_with fail
          refine (awake_any _).mono ?_
          rintro e1 w1 ⟨rfl, hb1⟩
          have hB1 := Aside0.mk (show Below w.heap.size w w1 from below_then (Drawn0.below ⟨⟨nq, rfl⟩⟩) (Nat.le_refl _) hb1)
          clear hb1
          go_wp2_with fail
          go_loopg [8, 9] n (fun gn v i wr => ∃ k : Nat, i = .int .i64 k ∧ Aside0 (k + gn = n ∧ ∀ x ∈ xs.take k, x.size ≤ 4096) ∧ Aside0 (wr.ownsRow w.heap.size 5 1 v (bytesOf (catW (xs.take k))).length (nums .u8 (bytesOf (catW (xs.take k))))) ∧ Aside0 (Below w.heap.size w wr))
          case atStart => exact ⟨0, rfl, ⟨by omega, by simp⟩, ⟨own_nil _ _ _ _⟩, hB1⟩
          case round =>
            clear hB1
            obtain ⟨k2, rfl, ⟨hg2, hall3⟩, hO, hB⟩ := hrel
            have HG2 := Lib.hid hg2
            have HALL3 := Lib.hid hall3
            clear hg2 hall3
            by_cases hk2 : k2 < n
            · obtain ⟨ad, rfl, hcell0⟩ := str_at HC.out k2 hk2
              have hxz := hall2.out k2 hk2
              have hts := Lib.hid (take_snoc xs k2 ByteArray.empty (by rw [HN0.out]; exact hk2))
              have hcell := pw_cell_below hB.out hcell0
              clear hcell0
              obtain ⟨x, hx⟩ : ∃ x, x = xs.getD k2 ByteArray.empty := ⟨_, rfl⟩
              rw [← hx] at hcell hxz hts
              have HX := Lib.hid hx
              clear hx
              have p0 : (0 : Int) ≤ k2 := by omega
              have p1 : (k2 : Int) < n := by omega
              go_wp2_with fail
              refine (wrap_any x _ (by omega)).mono ?_
              rintro e3 w3 ⟨rfl, hb3⟩
              have hB3 := Aside0.mk (below_then hB.out hB.out.size hb3)
              have hO3 := Aside0.mk (pw_own_below hO.out hb3)
              clear hcell hb3 hB hO
              have hcs : (bytesOf (catW (xs.take k2))).length + (wrapB x).size ≤ 140737488355328 := by
                rw [bytesOf_length, catW_size, wrapB_size]
                have h1 := wsum_take_le xs k2
                have h2 := HWS.out
                have h3 : ((xs.take k2).map fun d => d.size + 6).sum = wsum (xs.take k2) := rfl
                omega
              obtain ⟨t, ht⟩ : ∃ t, t = wrapB x := ⟨_, rfl⟩
              rw [← ht] at hcs
              rw [← ht]
              have HT := Lib.hid ht
              have HCS := Lib.hid hcs
              clear ht hcs
              go_wp2_with (at_builtin; refine print_append_str (w0 := w) w.heap.size rfl (.tmp 70) (.tmp 71) 36 9 5 rfl Try.underlying36 Try.underlying9 info5 _ (bytesOf (catW (xs.take k2))) t rfl rfl hO3.out hB3.out hB3.out.size HCS.out ?_; intro v1 w4 ho4 hb4 hg4; have hO4 := Aside0.mk ho4; have hB4 := Aside0.mk hb4; clear ho4 hb4 hg4)
              go_roundg (n - (k2 + 1))
              case measure => have := HG2.out; omega
              case rel => exact ⟨k2 + 1, by go_num, ⟨by have := HG2.out; omega, fun y hy => by
                rw [hts.out, List.mem_append, List.mem_singleton] at hy
                rcases hy with h | h
                · exact HALL3.out y h
                · rw [h]; omega⟩, ⟨by rw [hts.out, catW_snoc, bytesOf_append, ← HT.out]; exact hO4.out⟩, hB4⟩
            · have hk3 : xs.take k2 = xs := List.take_of_length_le (by rw [HN0.out]; omega)
              rw [hk3] at hO
              have hall4 := Lib.hid (fun x (hx : x ∈ xs) => HALL3.out x (by rw [hk3]; exact hx))
              clear hk3 HALL3
              obtain ⟨b, hb⟩ : ∃ b, b = catW xs := ⟨_, rfl⟩
              rw [← hb] at hO
              have hbs : b.size ≤ 1073741823 := by
                rw [hb, catW_size]
                have h2 := HWS.out
                have h3 : (xs.map fun d => d.size + 6).sum = wsum xs := rfl
                omega
              have HB := Lib.hid hb
              clear hb
              have hcv := own_string (P := Try.prog) Try.underlying36 Try.underlying5 Try.underlying9 hO.out
              rw [strOfNums_bytesOf] at hcv
              obtain ⟨lc, ec, hfc⟩ := Fr.ex rest rest.size 0 (Nat.zero_le _) (by omega)
              have hlc := (Fr.le hfc (Nat.zero_le _))
              have hf1 : Fr b 0 xs b.size := by
                have h1 := Fr.cat Fr.none xs hall4.out
                rw [List.append_nil, Nat.add_zero, ← HB.out, append_empty'] at h1
                exact h1
              have hf2 : Fr (b ++ rest) 0 (xs ++ lc) (b.size + ec) := by
                have h1 := Fr.cat hfc xs hall4.out
                rw [← HB.out] at h1
                exact h1
              have HF1 := Lib.hid hf1
              have HF2 := Lib.hid hf2
              have HFC := Lib.hid hfc
              obtain ⟨hlc1, hlc2⟩ := hlc
              have hxl : xs.length + lc.length ≤ 4294967296 := by have := HWS.out; have := HN0.out; omega
              clear hfc hf1 hf2
              have happ : b.size + rest.size ≤ 9223372036854775807 := by omega
              go_wp2_with fail
              refine (all_any b _ (by omega) xs b.size HF1.out).mono ?_
              rintro e5 w5 ⟨va, rfl, hRa, hb5⟩
              have hB5 := Aside0.mk (below_then hB.out hB.out.size hb5)
              have hRa5 := Aside0.mk (Kd.R_lower hRa hB.out.size)
              clear hcv hRa hb5 hO
              go_wp2_with fail
              refine (all_any rest _ (by omega) lc ec HFC.out).mono ?_
              rintro e6 w6 ⟨vc, rfl, hRc, hb6⟩
              have hB6 := Aside0.mk (below_then hB5.out hB5.out.size hb6)
              have hRa6 := Aside0.mk (Kd.R_below hRa5.out hb6)
              obtain ⟨A6, c6, rfl, hlc6, hC6⟩ := Kd.R_reads hRc
              have HC6 := Aside0.mk hC6
              clear hB5 hRa5 hRc hb6 hC6
              go_wp2_with fail
              refine (all_any (b ++ rest) _ (by rw [append_size']; omega) (xs ++ lc) (b.size + ec) HF2.out).mono ?_
              rintro e7 w7 ⟨vb, rfl, hRb, hb7⟩
              have hB7 := Aside0.mk (below_then hB6.out hB6.out.size hb7)
              have hRa7 := Aside0.mk (Kd.R_below hRa6.out hb7)
              have HC7 := Aside0.mk (Kd.C_below HC6.out hb7)
              have hRb7 := Aside0.mk (Kd.R_newR hRb hRa6.out)
              clear hB6 hRa6 HC6 hRb hb7
              obtain ⟨A8, c8, hvb8⟩ := Kd.R_slice hRb7.out
              obtain ⟨A9, c9, hva9⟩ := Kd.R_slice hRa7.out
              subst hvb8 hva9
              go_wp2_with (at_builtin; refine Kd.R_append_row Value.string ByteArray.empty (w0 := w) w.heap.size rfl (.tmp 92) (.tmp 93) 31 9 (.string ByteArray.empty) 16 rfl Try.underlying31 info9 rfl (by decide) _ xs lc _ _ _ (fun _ => True) rfl rfl (fun _ _ => trivial) hRa7.out HC7.out hB7.out hB7.out.size (by omega) ?_; intro v1 w8 ho8 hb8 hg8 hat8; have hR8 := Aside0.mk ho8; have hB8 := Aside0.mk hb8; have hRb8 := Aside0.mk (Kd.R_grown hRb7.out hg8 (fun k hk => hk.2)); obtain ⟨A10, c10, hv10⟩ := Kd.R_slice ho8; subst hv10; clear ho8 hb8 hg8 hat8)
              have hCb := (Kd.R_reads' hRb8.out).2.2
              have hCa := (Kd.R_reads' hR8.out).2.2
              rw [List.length_append] at hCb hCa
              refine (same_any A8 A10 _ _ c8 c10 (xs ++ lc) (xs ++ lc) _ hCb hCa).mono ?_
              rintro e9 w9 ⟨rfl, hd9⟩
              rw [decide_eq_true rfl]
              have HB9 := Aside0.mk (below_then hB8.out hB8.out.size hd9.below)
              have hn9 : n = xs.length := HN0.out.symm
              clear hCb hCa hd9
              subst hn9
              go_wp2_with fail
              go_ret
              exact ⟨rfl, HB9.out⟩
        · by_cases hl1 : N ≤ 1073741823
          · have hl2 : 1073741823 < rest.size := by omega
            go_wp2_with fail
            go_ret
            exact ⟨rfl, Drawn0.below ⟨⟨_, rfl⟩⟩⟩
          · go_wp2_with fail
            go_ret
            exact ⟨rfl, Drawn0.below ⟨⟨_, rfl⟩⟩⟩
    · by_cases hk : k < n
      · go_wp2_with fail
        go_ret
        exact ⟨rfl, Drawn0.below ⟨⟨_, rfl⟩⟩⟩
      · go_wp2_with fail
        go_ret
        exact ⟨rfl, Drawn0.below ⟨⟨_, rfl⟩⟩⟩
end Go.Proofs.Ytpegcdnkefljdaa
