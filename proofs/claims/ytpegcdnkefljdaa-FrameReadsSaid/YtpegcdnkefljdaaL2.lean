/- The walk of FrameReads. -/
import Derived.Test.YtpegcdnkefljdaaB3
set_option linter.unusedVariables false
set_option linter.unusedSimpArgs false
namespace Go.Proofs.Ytpegcdnkefljdaa
open Go.RowKit Go.Proofs.YtpegcdnkefljdaaW.PrintWords
theorem readV_form (s : ByteArray) (a : Int) : ∃ (d : ByteArray) (n e : Int), readV s a = .tuple #[.string d, .int .i64 n, .int .i64 e] := by
  unfold readV
  split
  · exact ⟨_, _, _, rfl⟩
  · split
    · exact ⟨_, _, _, rfl⟩
    · exact ⟨_, _, _, rfl⟩
/-- A cell of a row of strings of one's own. -/
theorem own_cell {W : World} {b : Nat} {ok : Nat → Prop} {g cap k : Nat} {xs : List ByteArray} (h : Kd.string.R 9 W b ok (.slice (some ⟨g, 0, none⟩) xs.length cap) xs) (hk : k < xs.length) :
    W.cell? ⟨g, k, none⟩ = some (.string (xs.getD k ByteArray.empty)) ∧ W.frozen? ⟨g, k, none⟩ = false := by
  have := Kd.R_cell (d := ByteArray.empty) h (k : Int) (by omega) (by omega)
  simpa [rdOf] using this
theorem own_put {W : World} {b : Nat} {ok : Nat → Prop} {g cap k : Nat} {xs : List ByteArray} (h : Kd.string.R 9 W b ok (.slice (some ⟨g, 0, none⟩) xs.length cap) xs) (x : ByteArray) :
    Kd.string.R 9 (W.setCell ⟨g, k, none⟩ (.string x)) b ok (.slice (some ⟨g, 0, none⟩) (xs.set k x).length cap) (xs.set k x) := by
  have h1 := (Kd.R_put h (k : Int) x).1
  rw [Int.toNat_natCast] at h1
  rw [List.length_set]
  exact h1
set_option maxHeartbeats 2000000 in
theorem reads_law (s : ByteArray) (at_ : Int) (w : World) (hs0 : s.size ≤ 140737488351232) (wf : (Lit.int .i64 at_).wf = true) :
    Calls Try.prog 4 #[.string s, .int .i64 at_] w fun e w' => e = .returned (.bool true) ∧ Below w.heap.size w w' := by
  clear wf
  by_cases hb : 2147483647 < s.size
  · go_enter Try.func4, Try.ntmps4
    go_wp2_with fail
    go_ret
    exact ⟨rfl, Below.refl _ _⟩
  · have hs : s.size ≤ 4294967296 := by omega
    obtain ⟨d, n, e, hrd⟩ := readV_form s at_
    obtain ⟨l, b, hfr⟩ := Fr.ex s s.size 0 (Nat.zero_le _) (by omega)
    have hbl := (Fr.le hfr (Nat.zero_le _))
    have hll : l.length ≤ 2147483647 := by omega
    clear hbl
    have HFR := Lib.hid hfr
    have HRD := Lib.hid hrd
    clear hfr hrd
    go_enter Try.func4, Try.ntmps4
    go_wp2_with fail
    refine (awake_any _).mono ?_
    rintro e1 w1 ⟨rfl, hb1⟩
    go_wp2_with fail
    refine (read_any s at_ _ hs).mono ?_
    rintro e2 w2 ⟨rfl, hb2⟩
    have hb12 := below_then hb1 hb1.size hb2
    clear hb1 hb2
    rw [HRD.out]
    go_wp2_with fail
    refine (readref_any s at_ _ hs).mono ?_
    rintro e3 w3 ⟨rfl, hb3⟩
    have hb13 := below_then hb12 hb12.size hb3
    clear hb12 hb3
    rw [HRD.out]
    go_wp2_with fail
    refine (allref_any s _ hs l b HFR.out).mono ?_
    rintro e4 w4 ⟨v, rfl, hR, hb4⟩
    have hb14 := below_then hb13 hb13.size hb4
    clear hb13 hb4
    obtain ⟨A, c, rfl, hlc, hC⟩ := Kd.R_reads hR
    clear hR
    go_wp2_with fail
    go_loopg [14] 2 (fun gn t wr => ∃ k : Nat, t = .int .i64 k ∧ Aside0 (k + gn = 2) ∧ Aside0 (Kd.string.C wr A l.length l) ∧ Aside0 (Below w.heap.size w wr))
    case atStart => exact ⟨0, rfl, ⟨rfl⟩, ⟨hC⟩, ⟨hb14⟩⟩
    case round =>
      clear hC hb14
      obtain ⟨k, rfl, hg, hC, hB⟩ := hrel
      by_cases hk : k < 2
      · obtain ⟨W0, hW0⟩ : ∃ W0, W0 = wr := ⟨_, rfl⟩
        obtain rfl := hW0
        go_wp2_with fail
        refine (all_any s _ hs l b HFR.out).mono ?_
        rintro e5 w5 ⟨v, rfl, hR, hb5⟩
        obtain ⟨A2, c2, rfl, hlc2, hC2⟩ := Kd.R_reads hR
        have hR := Aside0.mk hR
        go_wp2_with fail
        refine (same_any A2 A _ _ c2 c l l _ hC2 (Kd.C_below hC.out hb5)).mono ?_
        rintro e6 w6 ⟨rfl, hd6⟩
        clear hC2
        rw [decide_eq_true rfl]
        have hb6 := Aside0.mk (below_then hb5 hb5.size hd6.below)
        have hR6 := Aside0.mk (Kd.R_below hR.out hd6.below)
        clear hb5 hR hd6
        go_wp2_with fail
        go_loopg [18] l.length (fun gn t wr => ∃ (j : Nat) (ys : List ByteArray), t = .int .i64 j ∧ Aside0 (j + gn = l.length ∧ ys.length = l.length) ∧ Aside0 (Kd.string.R 9 wr W0.heap.size (fun _ => True) (.slice A2 l.length c2) ys) ∧ Aside0 (Below W0.heap.size W0 wr))
        case atStart => exact ⟨0, l, rfl, ⟨by omega, rfl⟩, hR6, hb6⟩
        case round =>
          clear hR6 hb6
          obtain ⟨j, ys, rfl, ⟨hj, hyl⟩, hR7, hb7⟩ := hrel
          by_cases hjl : j < l.length
          · obtain ⟨g, cap, hv, hgb, hgl, _⟩ := Kd.R_form hR7.out (by omega)
            rw [hyl] at hv
            cases hv
            have hR7' := hR7.out
            rw [← hyl] at hR7'
            obtain ⟨hc7, hf7⟩ := own_cell (k := j) hR7' (by omega)
            have hset := own_put (k := j) hR7' ⟨#[109, 97, 114, 107]⟩
            have HSET := Aside0.mk hset
            have HYL := Lib.hid hyl
            have HJ := Lib.hid hj
            clear hset hR7' hyl hj
            have p0 : (0 : Int) ≤ j := by omega
            have p1 : (j : Int) < l.length := by omega
            go_wp2_with fail
            go_roundg (l.length - (j + 1))
            case measure => have := HJ.out; omega
            case rel => exact ⟨j + 1, ys.set j ⟨#[109, 97, 114, 107]⟩, by go_num, ⟨by have := HJ.out; omega, by rw [List.length_set]; exact HYL.out⟩, ⟨by have := HSET.out; simp only [List.length_set, HYL.out] at this; exact this⟩, ⟨hb7.out.setCell hgb _⟩⟩
          · have hym : ys.length ≤ 2147483647 := by omega
            go_wp2_with (at_builtin; refine Kd.R_append Kd.string (w0 := W0) W0.heap.size rfl (.tmp 83) (.tmp 84) 31 9 (.string ByteArray.empty) 16 rfl Try.underlying31 info9 rfl (by decide) (by omega) _ ys ⟨#[109, 111, 114, 101]⟩ [.string ⟨#[109, 111, 114, 101]⟩] (fun _ => True) (fun _ => False) rfl rfl ?aP (fun _ hk => hk.elim) ?aF ?aO ?aB ?aS ?aL ?_; (case aP => exact rfl); (case aF => exact (fun _ _ => trivial)); (case aO => exact hR7.out); (case aB => exact hb7.out); (case aS => exact hb7.out.size); (case aL => omega); intro v1 w8 ho8 hb8 hg8 hat8; have hB8 := Aside0.mk hb8; clear ho8 hb8 hg8 hat8)
            go_roundg (2 - (k + 1))
            case measure => have := hg.out; omega
            case rel => exact ⟨k + 1, by go_num, ⟨by have := hg.out; omega⟩, ⟨Kd.C_below hC.out hB8.out⟩, ⟨below_then hB.out hB.out.size hB8.out⟩⟩
      · go_wp2_with fail
        go_ret
        exact ⟨rfl, hB.out⟩
end Go.Proofs.Ytpegcdnkefljdaa
