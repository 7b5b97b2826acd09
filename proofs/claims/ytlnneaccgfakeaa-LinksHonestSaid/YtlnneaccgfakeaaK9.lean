/- Layer 23: the walk of Under. -/
import Derived.Test.YtlnneaccgfakeaaK8
set_option linter.unusedVariables false
set_option linter.unusedSimpArgs false
namespace Go.Proofs.Ytlnneaccgfakeaa
open Go.RowKit Go.Proofs.YtlnneaccgfakeaaW.PrintWords Go.Proofs.YtlnneaccgfakeaaW.PrintLast
set_option maxRecDepth 100000 in
set_option maxHeartbeats 4000000 in
theorem under_any (n : NS) (A : Option Addr) (c : Nat) (xs : List (Msg × Nat)) (base p : Nat) (ok : Nat → Prop) (w : World) (hN : PNet w base p ok n A c xs) :
    Calls Try.prog 14 #[.pointer (some ⟨p, 0, none⟩)] w fun e w' => ∃ v, e = .returned v ∧ kMsg.R 32 w' w.heap.size (fun q => w.heap.size ≤ q) v n.l ∧ Below w.heap.size w w' := by
  have hll : n.l.length = xs.length := by rw [hN.fst, List.length_map]
  have hf5 := hN.f5
  have HN := Aside0.mk hN
  have HC := Aside0.mk (show kMsg.C w A xs.length n.l by rw [hN.fst]; exact kMB_C (Kd.R_reads' hN.row).2.2)
  have HLL := Lib.hid hll
  have p7 := hN.cnt
  clear hN hll
  go_enter Try.func14, Try.ntmps14
  go_wp2_with fail
  go_loopg [3, 11] xs.length (fun gn v i wr => ∃ k : Nat, i = .int .i64 k ∧ Aside0 (k + gn = xs.length) ∧ Aside0 (Below w.heap.size w wr) ∧ Aside0 (kMsg.R 32 wr w.heap.size (fun q => w.heap.size ≤ q) v (n.l.take k)))
  case atStart => exact ⟨0, rfl, ⟨by omega⟩, ⟨Below.refl _ _⟩, ⟨Kd.R_nil _ _ _ _ _⟩⟩
  case round =>
    obtain ⟨k, rfl, ⟨hgn⟩, hB, hR⟩ := hrel
    have HGN := Lib.hid hgn
    clear hgn
    by_cases hk : k < xs.length
    · obtain ⟨ad, m, B, d, rfl, hm, hmm, hts, q0, q1, q2, q3, q4, hl, hC⟩ := msg_at HC.out hB.out k hk
      have hz : m.body.length * 16 ≤ 140737488355328 := by
        rw [HN.out.fst] at hmm
        obtain ⟨y, hy, rfl⟩ := List.mem_map.1 hmm
        exact HN.out.bd y hy
      have HTS := Lib.hid hts
      obtain ⟨L, hL⟩ : ∃ L, L = n.l.take k := ⟨_, rfl⟩
      rw [← hL] at hR
      have HL := Lib.hid hL
      have hLl : L.length ≤ 1000 := by rw [hL, List.length_take]; omega
      obtain ⟨W2, h2, c2, s2, B2⟩ := grow (W := wr) rfl #[.int .i64 m.src, .int .i64 m.dst, .int .i64 m.kind, .int .i64 m.pos, .slice B m.body.length d] 32
      have HB2 := Aside0.mk (below_then hB.out hB.out.size B2)
      have HR2 := Aside0.mk (Kd.R_below hR.out B2)
      have HC2 := Aside0.mk (Kd.C_below hC HB2.out)
      have H2 := Lib.hid h2
      have HLT := Lib.hid (fun i hi => Kd.R_lt hR.out i hi)
      have HSZ := Lib.hid B2.size
      have p0 : (0 : Int) ≤ k := by omega
      have p1 : (k : Int) < xs.length := by omega
      clear hm hmm hts hl hC hL h2 c2 s2 B2 hR
      go_wp2_with fail
      rw [← H2.out]
      refine (of_any m B d W2 HC2.out hz).mono ?_
      rintro e w5 ⟨V, b, rfl, hR5, hb1, hb2, hb5⟩
      have HM : Aside0 (kMsg.M w5 w.heap.size (fun q => W2.heap.size ≤ q) m [.int .i64 m.src, .int .i64 m.dst, .int .i64 m.kind, .int .i64 m.pos, V]) := ⟨kMsg.M_lower HB2.out.size (kMsg_M.2 ⟨_, rfl, Kd.R_mono (Kd.R_bound hR5) (fun q hq => hq.2.1)⟩)⟩
      have HR5 := Aside0.mk (Kd.R_below HR2.out hb5)
      have HB5 := Aside0.mk (below_then HB2.out HB2.out.size hb5)
      clear hR5 hb1 hb2 hb5 q0 q1 q2 q3 q4 HR2
      go_wp2_with (at_builtin; go_loud (refine Kd.R_append kMsg (w0 := w5) w.heap.size rfl (.tmp 15) (.tmp 18) 29 32 _ 56 rfl Try.underlying29 info32 rfl (by decide) (by omega) _ L m [.int .i64 m.src, .int .i64 m.dst, .int .i64 m.kind, .int .i64 m.pos, V] (fun q => w.heap.size ≤ q) (fun q => W2.heap.size ≤ q) rfl rfl ?aP ?aK ?aF ?aO ?aB ?aS ?aL ?_); (case aP => exact HM.out); (case aK => exact fun i hi => ⟨Nat.le_trans HB2.out.size hi, fun he => by (have h1 := HLT.out i he.symm; have h2 := HSZ.out; omega)⟩); (case aF => exact fun i hi => Nat.le_trans HB5.out.size hi); (case aO => exact HR5.out); (case aB => exact Below.refl _ _); (case aS => exact HB5.out.size); (case aL => omega); intro v7 w7 ho7 hb7 hg7 hat7; have HO7 := Aside0.mk ho7; have HB7 := Aside0.mk (HB5.out.trans hb7); clear ho7 hb7 hg7 hat7)
      go_roundg (xs.length - (k + 1))
      case measure => have := HGN.out; omega
      case rel => exact ⟨k + 1, by go_num, ⟨by have := HGN.out; omega⟩, HB7, ⟨by have h1 := HO7.out; rw [HL.out, ← HTS.out] at h1; exact h1⟩⟩
    · go_wp2_with fail
      go_ret
      have h1 : n.l.take k = n.l := List.take_of_length_le (by have := HLL.out; omega)
      rw [h1] at hR
      exact ⟨_, rfl, hR.out, hB.out⟩
end Go.Proofs.Ytlnneaccgfakeaa
