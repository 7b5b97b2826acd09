/- Layer 19: the walks of the reference's Locks, Ask. -/
import Derived.Test.YtajblhainchplaaJ15
set_option linter.unusedVariables false
set_option linter.unusedSimpArgs false
namespace Go.Proofs.Ytajblhainchplaa
open Go.RowKit Go.Proofs.YtajblhainchplaaW.PrintWords Go.Proofs.YtajblhainchplaaW.PrintLast
theorem info76 : (Try.prog.info? 76).map (fun i => (i.zero, i.size, i.bytes)) = some (some (.agg #[.int .i64 0, .slice none 0 0]), 2, 32) := by kernel_rfl
def RStep (base p : Nat) (ok : Nat → Prop) (v : Value) (t : TS) (w : World) (e : Ending) (w' : World) : Prop :=
  e = .returned v ∧ (∃ A c, RNet w' base p ok t A c) ∧ Mod w w' (fun k => k = p ∨ ok k)
set_option maxRecDepth 100000 in
set_option maxHeartbeats 4000000 in
theorem rlocks_any (t : TS) (A : Option Addr) (c : Nat) (base p : Nat) (ok : Nat → Prop) (pos : Int) (w : World) (hN : RNet w base p ok t A c) :
    Calls Try.prog 43 #[.pointer (some ⟨p, 0, none⟩), .int .i64 pos] w fun e w' => ∃ v, e = .returned (.tuple #[v, .int .i64 (t.locks pos).2]) ∧ kLk.R 23 w' w.heap.size (fun q => w.heap.size ≤ q) v (t.locks pos).1 ∧ Below w.heap.size w w' := by
  have HN := Aside0.mk hN
  clear hN
  go_enter Try.func43, Try.ntmps43
  go_wp2_with fail
  refine (at_any t A c base p ok pos w HN.out).mono ?_
  rintro e w1 ⟨r, rfl, hr, rfl⟩
  have f1 := HN.out.f0
  rcases hr.find with ⟨hf, rfl⟩ | ⟨i, hf, rfl, hi⟩
  · have HF := Lib.hid hf
    clear hf hr
    go_wp2_with fail
    refine bodyPost_ret (results_list (rs := [_, _]) rfl (by simp) (.tmp (.tmp .nil))) rfl ⟨_, by rw [locks_no HF.out]; rfl, by rw [locks_no HF.out]; exact Kd.R_nil _ _ _ _ _, Below.refl _ _⟩
  · have HF := Lib.hid hf
    obtain ⟨ad, x, X, xd, rfl, hx, hxm, hxt, x0, x1, hxl, hCx⟩ := pl_at HN.out.C (Below.refl _ _) i hi
    have HX := Lib.hid hx
    have HCX := Aside0.mk hCx
    have p0 : (0 : Int) ≤ i := by omega
    have p1 : (i : Int) < t.l.length := by omega
    have p2 : ¬ (i : Int) < 0 := by omega
    have hbd := HN.out.bd x hxm
    clear hf hr hx hxm hxt hCx hxl
    go_wp2_with (first | (at_make; refine Kd.R_make kLk (w0 := w1) w1.heap.size 23 rfl rfl 29 (.tmp 21) (.tmp 21) rfl (x.l.length : Int) rfl rfl Try.underlying29 _ 48 info23 rfl (by decide) (by omega) (default : Lk) (ok := fun k => w1.heap.size ≤ k) (okp := fun k => w1.heap.size ≤ k) (kLk_M.2 rfl) (fun _ h => h) (Nat.le_refl _) (by omega) (by rw [Int.toNat_natCast]; omega) (Below.refl _ _) (Nat.le_refl _) ?_; intro v1 w2 ho hb hg hat; have HR := Aside0.mk ho; have HB := Aside0.mk hb; have f2 := pw_cell_below hb f1; have x2 := pw_cell_below hb x1; clear ho hb hg hat) | ((with_reducible refine gate_copy (xs := #[.tmp 23, .tmp 31]) rfl ?_); go_loud (refine R_copy_all kLk (Rr := fun x cs => cs = [.int .i64 x.table, .string x.lo, .string x.hi, .bool x.write]) (w0 := w1) w1.heap.size rfl (.tmp 23) (.tmp 31) 29 29 23 rfl Try.underlying29 size23 (by decide) v1 _ x.l X x.l.length xd (fun k => w1.heap.size ≤ k) rfl rfl HR.out (by rw [List.length_replicate, Int.toNat_natCast]) ((Kd.C_below HCX.out HB.out).imp_ (Below.refl _ _) (fun _ _ h => kLk_K.1 h)) (fun _ _ h _ _ => kLk_M.2 h) HB.out HB.out.size ?_); intro w3 ho2 hb2 hg2; have HR2 := Aside0.mk ho2; have HB2 := Aside0.mk hb2; clear ho2 hb2 hg2))
    refine bodyPost_ret (results_list (rs := [_, _]) rfl (by simp) (.tmp (.tmp .nil))) rfl ⟨_, by rw [locks_yes HF.out]; rfl, by rw [locks_yes HF.out, HX.out]; exact HR2.out, HB2.out⟩
set_option maxRecDepth 100000 in
set_option maxHeartbeats 8000000 in
theorem rask_any (t : TS) (A : Option Addr) (c : Nat) (base p : Nat) (ok : Nat → Prop) (pos : Int) (l : List Lk) (B : Option Addr) (d : Nat) (w : World) (hN : RNet w base p ok t A c) (hb0 : base ≤ w.heap.size) (hfr : ∀ k, w.heap.size ≤ k → ok k)
    (hC : kLk.C w B l.length l) (hz : l.length * 48 ≤ 140737488355328) (hs : (t.l.length + 1) * 32 ≤ 140737488355328) (hlow : -1 ≤ t.last) :
    Calls Try.prog 38 #[.pointer (some ⟨p, 0, none⟩), .int .i64 pos, .slice B l.length d] w (RStep base p ok (.int .i64 (t.ask pos l).1) (t.ask pos l).2 w) := by
  have HC := Aside0.mk hC
  have HN := Aside0.mk hN
  have f1 : w.cell? ⟨p, 1, none⟩ = some (.int .i64 t.last) := blk_cell hN.blk 1
  have hn := hC.2.1
  clear hC hN
  go_enter Try.func38, Try.ntmps38
  by_cases h1 : pos ≤ t.last
  case pos =>
    have H1 := Lib.hid h1
    by_cases h0 : pos < 0
    · go_wp2_with fail
      go_ret
      exact ⟨by rw [ask_no1 H1.out]; rfl, ⟨A, c, by rw [ask_no1 H1.out]; exact HN.out⟩, Mod.refl _ _⟩
    · go_wp2_with fail
      go_ret
      exact ⟨by rw [ask_no1 H1.out]; rfl, ⟨A, c, by rw [ask_no1 H1.out]; exact HN.out⟩, Mod.refl _ _⟩
  case neg =>
    have H1 := Lib.hid h1
    have h0 : ¬ pos < 0 := by omega
    go_wp2_with fail
    go_loopg [7] l.length (fun gn i wr => ∃ k : Nat, i = .int .i64 k ∧ Aside0 (k + gn = l.length ∧ ∀ x ∈ l.take k, RightL x) ∧ Aside0 (Below w.heap.size w wr))
    case atStart => exact ⟨0, rfl, ⟨by omega, by simp⟩, ⟨Below.refl _ _⟩⟩
    case round =>
      obtain ⟨k, rfl, ⟨hgn, hall⟩, hW⟩ := hrel
      have HGN := Lib.hid hgn
      have HALL := Lib.hid hall
      clear hgn hall h1 h0
      by_cases hk : k < l.length
      · obtain ⟨ad, x, rfl, hx, hmem0, hts0, q0, q1, q2, q3⟩ := lk_at HC.out hW.out k hk
        have HTS := Lib.hid hts0
        have HMEM := Lib.hid hmem0
        have p0 : (0 : Int) ≤ k := by omega
        have p1 : (k : Int) < l.length := by omega
        clear hts0 hmem0 hx
        go_wp2_with fail
        refine (rright_any x wr).mono ?_
        rintro e w2 ⟨rfl, hb2⟩
        have B2 := Aside0.mk (below_then hW.out hW.out.size hb2)
        clear hb2 q0 q1 q2 q3 f1
        by_cases hE : RightL x
        · rw [decide_eq_true hE]
          have HE := Lib.hid hE
          clear hE
          go_wp2_with fail
          go_roundg (l.length - (k + 1))
          case measure => have := HGN.out; omega
          case rel => exact ⟨k + 1, by go_num, ⟨by have := HGN.out; omega, fun z hz => by
            rw [HTS.out, List.mem_append, List.mem_singleton] at hz
            rcases hz with h | h
            · exact HALL.out z h
            · rw [h]; exact HE.out⟩, B2⟩
        · rw [decide_eq_false hE]
          have HE := Lib.hid hE
          clear hE
          go_wp2_with fail
          go_ret
          have h2 : ∃ x ∈ l, ¬ RightL x := ⟨x, HMEM.out, HE.out⟩
          exact ⟨by rw [ask_no2 (Int.not_le.2 H1.out) h2]; rfl, ⟨A, c, by rw [ask_no2 (Int.not_le.2 H1.out) h2]; exact HN.out.below B2.out⟩, Mod.of_below B2.out⟩
      · have hxs : l.take k = l := List.take_of_length_le (by omega)
        rw [hxs] at HALL
        have H2 := Lib.hid (show ¬ ∃ x ∈ l, ¬ RightL x from fun ⟨x, hx, h⟩ => h (HALL.out x hx))
        have p1 : ¬ (k : Int) < l.length := by omega
        have NR := Aside0.mk (HN.out.below hW.out)
        have HCR := Aside0.mk (Kd.C_below HC.out hW.out)
        have BR := hW
        have hbr : base ≤ wr.heap.size := Nat.le_trans hb0 hW.out.size
        have f0 := NR.out.f0
        clear hxs f1 hW
        go_wp2_with (first | (at_make; refine Kd.R_make kLk (w0 := wr) wr.heap.size 23 rfl rfl 29 (.tmp 34) (.tmp 34) rfl (l.length : Int) rfl rfl Try.underlying29 _ 48 info23 rfl (by decide) (by omega) (default : Lk) (ok := fun k => wr.heap.size ≤ k) (okp := fun k => wr.heap.size ≤ k) (kLk_M.2 rfl) (fun _ h => h) (Nat.le_refl _) (by omega) (by rw [Int.toNat_natCast]; omega) (Below.refl _ _) (Nat.le_refl _) ?_; intro v1 w2 ho hb hg hat; obtain ⟨V1, k1, hv1⟩ := Kd.R_slice ho; rw [List.length_replicate, Int.toNat_natCast] at hv1; subst hv1; have HR := Aside0.mk ho; have HB := Aside0.mk hb; clear ho hb hg hat f0) | ((with_reducible refine gate_copy (xs := #[.tmp 36, .tmp 37]) rfl ?_); go_loud (refine R_copy_all kLk (Rr := fun x cs => cs = [.int .i64 x.table, .string x.lo, .string x.hi, .bool x.write]) (w0 := wr) wr.heap.size rfl (.tmp 36) (.tmp 37) 29 29 23 rfl Try.underlying29 size23 (by decide) (.slice V1 l.length k1) _ l B l.length d (fun k => wr.heap.size ≤ k) rfl rfl HR.out (by rw [List.length_replicate, Int.toNat_natCast]) ((Kd.C_below HCR.out HB.out).imp_ (Below.refl _ _) (fun _ _ h => kLk_K.1 h)) (fun _ _ h _ _ => kLk_M.2 h) HB.out HB.out.size ?_); intro w5 ho2 hb2 hg2; have HM : Aside0 (kPl.M w5 wr.heap.size (fun k => wr.heap.size ≤ k) ⟨pos, l⟩ [.int .i64 pos, .slice V1 l.length k1]) := ⟨kPl_M.2 ⟨_, rfl, ho2⟩⟩; have B5 := Aside0.mk hb2; have N5 := Aside0.mk (NR.out.below hb2); have f5 := N5.out.f0; clear ho2 hb2 hg2) | (at_builtin; go_loud (refine Kd.R_append kPl (w0 := w5) base rfl (.tmp 43) (.tmp 47) 68 76 _ 32 rfl Try.underlying68 info76 rfl (by decide) (by omega) _ t.l ⟨pos, l⟩ [.int .i64 pos, .slice V1 l.length k1] ok (fun k => wr.heap.size ≤ k) rfl rfl ?aP ?aK ?aF ?aO ?aB ?aS ?aL ?_); (case aP => exact kPl.M_lower hbr HM.out); (case aK => exact fun i hi => ⟨hfr i (Nat.le_trans BR.out.size hi), fun he => by have h1 := Kd.R_lt NR.out.row i he.symm; omega⟩); (case aF => exact fun i hi => hfr i (Nat.le_trans BR.out.size (Nat.le_trans B5.out.size hi))); (case aO => exact N5.out.row); (case aB => exact Below.refl _ _); (case aS => exact Nat.le_trans hbr B5.out.size); (case aL => exact hs); intro v7 w7 ho7 hb7 hg7 hat7; obtain ⟨V7, vc7, hv7⟩ := Kd.R_slice ho7; rw [List.length_append, List.length_singleton] at hv7; subst hv7; have hO7 := Aside0.mk ho7; have hp7 : w7.heap[p]? = _ := (hg7.block p (blk_lt N5.out.blk) (fun he => N5.out.pok (N5.out.row.1 p he.symm))).trans N5.out.blk; have HP7 := Aside0.mk hp7; have HM7 : Aside0 (Mod w5 w7 ok) := ⟨⟨hb7.os, hb7.tape, hb7.output, hg7.size, fun i hi hn => hg7.block i hi (fun he => hn (N5.out.row.1 i he.symm))⟩⟩; have HP8 := Aside0.mk (blk_put HP7.out 0 (.slice V7 (t.l.length + 1) vc7) rfl); have z1 := blk_cell HP7.out 0; have z2 := blk_frozen HP7.out 0; have k0 : (w7.setCell ⟨p, 0, none⟩ (.slice V7 (t.l.length + 1) vc7)).cell? ⟨p, 1, none⟩ = some (.int .i64 t.last) := blk_cell HP8.out 1; have k1' : (w7.setCell ⟨p, 0, none⟩ (.slice V7 (t.l.length + 1) vc7)).frozen? ⟨p, 1, none⟩ = false := blk_frozen HP8.out 1; clear ho7 hb7 hg7 hat7 hp7 f5))
        go_ret
        have hR8 := R_set hO7.out p 0 (.slice V7 (t.l.length + 1) vc7) NR.out.pok
        have hM9 := (HM7.out.mono (S' := fun k => k = p ∨ ok k) (fun _ h => .inr h)).trans ((mod_setCell w7 p 0 (.slice V7 (t.l.length + 1) vc7)).mono (fun _ h => .inl h))
        have hMw := (Mod.of_below (S := fun k => k = p ∨ ok k) (below_then BR.out BR.out.size B5.out)).trans hM9
        have hR9 := R_set hR8 p 1 (.int .i64 pos) NR.out.pok
        refine ⟨by rw [ask_ok (Int.not_le.2 H1.out) H2.out]; rfl, ⟨V7, vc7, ?_⟩, hMw.trans ((mod_setCell _ p 1 _).mono (fun _ h => .inl h))⟩
        rw [ask_ok (Int.not_le.2 H1.out) H2.out]
        refine ⟨?_, ?_, NR.out.pb, NR.out.pok, ?_⟩
        · show _ = some (Obj.cells #[.slice V7 (t.l ++ [Plc.mk pos l]).length vc7, _] 70 (0, 0))
          rw [List.length_append]
          exact blk_put HP8.out 1 (.int .i64 pos) rfl
        · show kPl.R 76 _ base ok (.slice V7 (t.l ++ [Plc.mk pos l]).length vc7) (t.l ++ [Plc.mk pos l])
          rw [List.length_append]
          exact hR9
        · intro x hx
          rcases List.mem_append.1 hx with hx | hx
          · exact NR.out.bd x hx
          · rw [List.mem_singleton.1 hx]; exact hz
end Go.Proofs.Ytajblhainchplaa
