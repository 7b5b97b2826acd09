/- Layer 08: the laws' arguments, bytes back, the laws Back and Grows: D49 D54 D63 D64 D65 joined. No condition. -/
import Derived.Test.YtcmgdieeclninaaD48
import Derived.Test.YtcmgdieeclninaaOpen
import Derived.Test.YtcmgdieeclninaaD45
import Derived.IntWalk
import Derived.Test.YtcmgdieeclninaaWLast
/- Layer 08: D49 the laws' arguments -/
set_option linter.unusedVariables false
set_option linter.unusedSimpArgs false
namespace Go.Proofs.Ytcmgdieeclninaa
open Go.RowKit Go.Proofs.YtcmgdieeclninaaW.PrintWords Go.Proofs.Ytcmgdieeclninaa.Opn
attribute [local irreducible] Opens OpensF
theorem o9 : Opens Try.prog 9 Kd.string (fun s => s.size ≤ 140737488351232) := opens_string Try.underlying9
theorem o3 : Opens Try.prog 3 (Kd.int .i64) (fun _ => True) := opens_imp (opens_int Try.underlying3) (fun _ _ => trivial)
theorem o4 : Opens Try.prog 4 Kd.bool (fun _ => True) := opens_bool Try.underlying4
theorem o27 : Opens Try.prog 27 (Kd.slice 3 (Kd.int .i64)) (fun xs => xs.length * 8 ≤ 140737488351232) := opens_imp (opens_slice Try.underlying27 (by kernel_rfl) (B := 8) (by kernel_rfl) o3) (fun _ h => h.1)
theorem o62 : Opens Try.prog 62 kCol (fun c => c.name.size ≤ 140737488351232) :=
  opens_imp (opens_iso (fun c : Col => (c.name, c.type, c.notNull)) (fun p => ⟨p.1, p.2.1, p.2.2⟩) (fun _ => rfl) (opens_struct Try.underlying62 (by kernel_rfl) (opensF_cons rfl (by kernel_rfl) o9 (opensF_cons (Z := fun _ => True) rfl (by kernel_rfl) (opens_imp (opens_int (k := .i64) (by kernel_rfl)) (fun _ _ => trivial)) (opensF_one (Z := fun _ => True) rfl (by kernel_rfl) o4))))) (fun x h => h.1)
theorem o26 : Opens Try.prog 26 (Kd.slice 62 kCol) (fun xs => xs.length * 32 ≤ 140737488351232 ∧ ∀ x ∈ xs, x.name.size ≤ 140737488351232) := opens_slice Try.underlying26 (by kernel_rfl) (B := 32) (by kernel_rfl) o62
theorem o64 : Opens Try.prog 64 kIdx (fun c => c.name.size ≤ 140737488351232 ∧ c.columns.length * 8 ≤ 140737488351232) :=
  opens_imp (opens_iso (fun c : Idx => (c.name, c.columns, c.unique)) (fun p => ⟨p.1, p.2.1, p.2.2⟩) (fun _ => rfl) (opens_struct Try.underlying64 (by kernel_rfl) (opensF_cons rfl (by kernel_rfl) o9 (opensF_cons rfl (by kernel_rfl) o27 (opensF_one rfl (by kernel_rfl) o4))))) (fun x h => ⟨h.1, h.2.1⟩)
theorem o28 : Opens Try.prog 28 (Kd.slice 64 kIdx) (fun xs => xs.length * 48 ≤ 140737488351232 ∧ ∀ x ∈ xs, x.name.size ≤ 140737488351232 ∧ x.columns.length * 8 ≤ 140737488351232) := opens_slice Try.underlying28 (by kernel_rfl) (B := 48) (by kernel_rfl) o64
theorem o30 : Opens Try.prog 30 kTab (fun t => SzTab t ∧ BdTab t) :=
  opens_imp (opens_iso (fun t : Tab => (t.name, t.cols, t.key, t.part, t.idx)) (fun p => ⟨p.1, p.2.1, p.2.2.1, p.2.2.2.1, p.2.2.2.2⟩) (fun _ => rfl) (opens_struct Try.underlying30 (by kernel_rfl) (opensF_cons rfl (by kernel_rfl) o9 (opensF_cons rfl (by kernel_rfl) o26 (opensF_cons rfl (by kernel_rfl) o27 (opensF_cons rfl (by kernel_rfl) o3 (opensF_one rfl (by kernel_rfl) o28)))))))
    (fun x h => ⟨⟨h.2.1.1, h.2.2.1, h.2.2.2.2.1, fun y hy => (h.2.2.2.2.2 y hy).2⟩, ⟨h.1, h.2.1.2, fun y hy => (h.2.2.2.2.2 y hy).1⟩⟩)
theorem o66 : Opens Try.prog 66 kPrm (fun c => c.name.size ≤ 140737488351232) :=
  opens_imp (opens_iso (fun c : Prm => (c.name, c.type)) (fun p => ⟨p.1, p.2⟩) (fun _ => rfl) (opens_struct Try.underlying66 (by kernel_rfl) (opensF_cons rfl (by kernel_rfl) o9 (opensF_one rfl (by kernel_rfl) o3)))) (fun x h => h.1)
theorem o31 : Opens Try.prog 31 (Kd.slice 66 kPrm) (fun xs => xs.length * 24 ≤ 140737488351232 ∧ ∀ x ∈ xs, x.name.size ≤ 140737488351232) := opens_slice Try.underlying31 (by kernel_rfl) (B := 24) (by kernel_rfl) o66
theorem o32 : Opens Try.prog 32 (Kd.slice 9 Kd.string) (fun xs => xs.length * 16 ≤ 140737488351232 ∧ ∀ x ∈ xs, x.size ≤ 140737488351232) := opens_slice Try.underlying32 (by kernel_rfl) (B := 16) (by kernel_rfl) o9
theorem o34 : Opens Try.prog 34 kPrc (fun t => SzPrc t ∧ BdPrc t) :=
  opens_imp (opens_iso (fun p : Prc => (p.name, p.params, p.body, p.rows, p.bytes)) (fun p => ⟨p.1, p.2.1, p.2.2.1, p.2.2.2.1, p.2.2.2.2⟩) (fun _ => rfl) (opens_struct Try.underlying34 (by kernel_rfl) (opensF_cons rfl (by kernel_rfl) o9 (opensF_cons rfl (by kernel_rfl) o31 (opensF_cons rfl (by kernel_rfl) o32 (opensF_cons rfl (by kernel_rfl) o3 (opensF_one rfl (by kernel_rfl) o3)))))))
    (fun x h => ⟨⟨h.2.1.1, h.2.2.1.1⟩, ⟨h.1, h.2.1.2, h.2.2.1.2⟩⟩)
theorem o22 : Opens Try.prog 22 (Kd.slice 30 kTab) (fun xs => xs.length * 96 ≤ 140737488351232 ∧ ∀ x ∈ xs, SzTab x ∧ BdTab x) := opens_slice Try.underlying22 (by kernel_rfl) (B := 96) (by kernel_rfl) o30
theorem o23 : Opens Try.prog 23 (Kd.slice 34 kPrc) (fun xs => xs.length * 80 ≤ 140737488351232 ∧ ∀ x ∈ xs, SzPrc x ∧ BdPrc x) := opens_slice Try.underlying23 (by kernel_rfl) (B := 80) (by kernel_rfl) o34
theorem o25 : Opens Try.prog 25 kCat (fun c => SzCat c ∧ BdCat c) :=
  opens_imp (opens_iso (fun c : Cat => (c.tables, c.procs)) (fun p => ⟨p.1, p.2⟩) (fun _ => rfl) (opens_struct Try.underlying25 (by kernel_rfl) (opensF_cons rfl (by kernel_rfl) o22 (opensF_one rfl (by kernel_rfl) o23))))
    (fun x h => ⟨⟨h.1.1, h.2.1, fun t ht => (h.1.2 t ht).1, fun p hp => (h.2.2 p hp).1⟩, ⟨fun t ht => (h.1.2 t ht).2, fun p hp => (h.2.2 p hp).2⟩⟩)
/-- A catalog argument's cells. -/
theorem kCat_open {W : World} {c : Cat} {cs : Array Value} (h : kCat.K W c cs.toList) : ∃ A1 d1 A2 d2, cs = #[.slice A1 c.tables.length d1, .slice A2 c.procs.length d2] ∧ (kTab.C W A1 c.tables.length c.tables ∧ c.tables.length ≤ d1) ∧ (kPrc.C W A2 c.procs.length c.procs ∧ c.procs.length ≤ d2) := by
  obtain ⟨c0, c1, he, ⟨A1, d1, rfl, l1, h1⟩, A2, d2, rfl, l2, h2⟩ := h
  refine ⟨A1, d1, A2, d2, ?_, ⟨h1, l1⟩, h2, l2⟩
  cases cs; simpa using he
theorem kTab_open {W : World} {t : Tab} {cs : Array Value} (h : kTab.K W t cs.toList) : ∃ A1 d1 A2 d2 A3 d3, cs = #[.string t.name, .slice A1 t.cols.length d1, .slice A2 t.key.length d2, .int .i64 t.part, .slice A3 t.idx.length d3] ∧ (kCol.C W A1 t.cols.length t.cols ∧ t.cols.length ≤ d1) ∧ ((Kd.int .i64).C W A2 t.key.length t.key ∧ t.key.length ≤ d2) ∧ (kIdx.C W A3 t.idx.length t.idx ∧ t.idx.length ≤ d3) := by
  obtain ⟨v1, v2, v3, he, ⟨A1, d1, rfl, l1, h1⟩, ⟨A2, d2, rfl, l2, h2⟩, A3, d3, rfl, l3, h3⟩ := kTab_K.1 h
  refine ⟨A1, d1, A2, d2, A3, d3, ?_, ⟨h1, l1⟩, ⟨h2, l2⟩, h3, l3⟩
  cases cs; simpa using he
theorem kPrc_open {W : World} {t : Prc} {cs : Array Value} (h : kPrc.K W t cs.toList) : ∃ A1 d1 A2 d2, cs = #[.string t.name, .slice A1 t.params.length d1, .slice A2 t.body.length d2, .int .i64 t.rows, .int .i64 t.bytes] ∧ (kPrm.C W A1 t.params.length t.params ∧ t.params.length ≤ d1) ∧ (Kd.string.C W A2 t.body.length t.body ∧ t.body.length ≤ d2) := by
  obtain ⟨v1, v2, he, ⟨A1, d1, rfl, l1, h1⟩, A2, d2, rfl, l2, h2⟩ := kPrc_K.1 h
  refine ⟨A1, d1, A2, d2, ?_, ⟨h1, l1⟩, h2, l2⟩
  cases cs; simpa using he
theorem kPrc_one {w : World} {t : Prc} {A1 A2 : Option Addr} {d1 d2 : Nat} (h1 : kPrm.C w A1 t.params.length t.params) (l1 : t.params.length ≤ d1) (h2 : Kd.string.C w A2 t.body.length t.body) (l2 : t.body.length ≤ d2) :
    kPrc.K w t [.string t.name, .slice A1 t.params.length d1, .slice A2 t.body.length d2, .int .i64 t.rows, .int .i64 t.bytes] :=
  kPrc_K.2 ⟨_, _, rfl, ⟨A1, d1, rfl, l1, h1⟩, ⟨A2, d2, rfl, l2, h2⟩⟩
end Go.Proofs.Ytcmgdieeclninaa

/- Layer 08: D54 plain: bytes back -/
set_option linter.unusedVariables false
set_option linter.unusedSimpArgs false
namespace Go.Proofs.Ytcmgdieeclninaa
open Go.RowKit Go.Proofs.YtcmgdieeclninaaW.PrintWords
theorem nums_back (l : List Int) (h : ∀ b ∈ l, 0 ≤ b ∧ b ≤ 255) : bytesOf (strOfNums l) = l := by
  induction l with
  | nil => rfl
  | cons x l ih =>
    have h1 := h x List.mem_cons_self
    have h2 := ih (fun b hb => h b (List.mem_cons_of_mem _ hb))
    have h3 : bytesOf (strOfNums (x :: l)) = (((UInt8.ofNat x.toNat).toNat : Nat) : Int) :: bytesOf (strOfNums l) := by
      simp [bytesOf, strOfNums]
    rw [h3, h2]
    congr 1
    simp
    omega
theorem str_back (s : ByteArray) : strOfNums (bytesOf s) = s := bytesOf_inj (nums_back _ (bytes_range s))
def InB (l : List Int) : Prop := ∀ b ∈ l, 0 ≤ b ∧ b ≤ 255
theorem InB.app {a b : List Int} (h : InB a) (k : InB b) : InB (a ++ b) := fun x hx => by
  rcases List.mem_append.1 hx with hx | hx
  · exact h x hx
  · exact k x hx
theorem InB.flat {α : Type} {f : α → List Int} {l : List α} (h : ∀ x, InB (f x)) : InB (l.flatMap f) := fun x hx => by
  obtain ⟨a, _, ha⟩ := List.mem_flatMap.1 hx
  exact h a x ha
theorem inb_N (n : Nat) : InB (wN n) := by
  induction n using Nat.strongRecOn with
  | _ n ih =>
    by_cases h : n < 128
    · rw [wN_small h]; intro b hb; rw [List.mem_singleton.1 hb]; omega
    · rw [wN_big h]
      intro b hb
      rcases List.mem_cons.1 hb with rfl | hb
      · omega
      · exact ih (n / 128) (by omega) b hb
theorem inb_T (s : ByteArray) : InB (wT s) := (inb_N _).app (bytes_range s)
theorem inb_F (b : Bool) : InB (wF b) := fun x hx => by cases b <;> (rw [List.mem_singleton.1 hx]; decide)
theorem inb_L (l : List Int) : InB (wL l) := (inb_N _).app (InB.flat (fun n => inb_N _))
theorem inb_C (c : Col) : InB (wC c) := (inb_T _).app ((inb_N _).app (inb_F _))
theorem inb_I (c : Idx) : InB (wI c) := (inb_T _).app ((inb_F _).app (inb_L _))
theorem inb_Tab (t : Tab) : InB (wTab t) := (inb_T _).app (((inb_N _).app (InB.flat inb_C)).app ((inb_L _).app ((inb_N _).app ((inb_N _).app (InB.flat inb_I)))))
theorem inb_P (c : Prm) : InB (wP c) := (inb_T _).app (inb_N _)
theorem inb_Prc (t : Prc) : InB (wPrc t) := (inb_T _).app (((inb_N _).app (InB.flat inb_P)).app (((inb_N _).app (InB.flat inb_T)).app ((inb_N _).app (inb_N _))))
theorem inb_Cat (c : Cat) : InB (wCat c) := ((inb_N _).app (InB.flat inb_Tab)).app ((inb_N _).app (InB.flat inb_Prc))
/-- The lenient reading, written again, tells. -/
theorem decRel_len {s : ByteArray} {c : Cat} {l' : List Int} (h : Cp wCat okCat (bytesOf s) c l') : ((encO c).2 = 0 ∧ (encO c).1 = s → DecRel s (0, c)) ∧ (¬ ((encO c).2 = 0 ∧ (encO c).1 = s) → DecRel s (80, ⟨[], []⟩)) := by
  constructor
  · rintro ⟨h1, h2⟩
    by_cases hR : RightCat c
    · unfold encO at h2
      rw [if_pos hR] at h2
      refine ⟨fun c' hc' he => ?_, fun hn => ?_⟩
      · obtain ⟨h3, _⟩ := h c' [] (okCat_of hc') (by rw [he, List.append_nil])
        rw [h3]
      · exact absurd (by rw [← h2]; exact nums_back _ (inb_Cat c)) (hn c hR)
    · unfold encO at h1
      rw [if_neg hR] at h1
      cases h1
  · intro hno
    refine ⟨fun c' hc' he => ?_, fun _ => rfl⟩
    exfalso
    obtain ⟨h3, _⟩ := h c' [] (okCat_of hc') (by rw [he, List.append_nil])
    subst h3
    apply hno
    unfold encO
    rw [if_pos hc', ← he]
    exact ⟨rfl, str_back s⟩
end Go.Proofs.Ytcmgdieeclninaa

/- Layer 08: D63 the law Back -/
set_option linter.unusedVariables false
set_option linter.unusedSimpArgs false
namespace Go.Proofs.Ytcmgdieeclninaa
open Go.RowKit Go.Proofs.YtcmgdieeclninaaW.PrintWords
theorem enc_cases (c : Cat) : (RightCat c ∧ (encO c).2 = 0 ∧ bytesOf (encO c).1 = wCat c ∧ (encO c).1.size ≤ 200000) ∨ (¬ RightCat c ∧ (encO c).2 = 80) := by
  by_cases h : RightCat c
  · have h2 : bytesOf (encO c).1 = wCat c := by unfold encO; rw [if_pos h]; exact nums_back _ (inb_Cat c)
    exact .inl ⟨h, by unfold encO; rw [if_pos h], h2, by rw [← bytesOf_length, h2]; exact wCat_len h⟩
  · exact .inr ⟨h, by unfold encO; rw [if_neg h]⟩
set_option maxRecDepth 100000 in
set_option maxHeartbeats 8000000 in
theorem back_any (cs0 : Array Value) (c : Cat) (cs1 : Array Value) (d : Cat) (W : World) (hK0 : kCat.K W c cs0.toList) (hZ0 : SzCat c ∧ BdCat c) (hK1 : kCat.K W d cs1.toList) (hZ1 : SzCat d ∧ BdCat d) :
    Calls Try.prog 7 #[.agg cs0, .agg cs1] W fun e W' => e = .returned (.bool true) ∧ Below W.heap.size W W' := by
  obtain ⟨A1, a1, A2, a2, rfl, ⟨hA1, lA1⟩, hA2, lA2⟩ := kCat_open hK0
  obtain ⟨D1, d1, D2, d2, rfl, ⟨hD1, lD1⟩, hD2, lD2⟩ := kCat_open hK1
  clear hK0 hK1
  obtain ⟨w1, hw1, b1, s1, hb1⟩ := grow (W := W) rfl #[.slice A1 c.tables.length a1, .slice A2 c.procs.length a2] 25
  obtain ⟨w2, hw2, b2, s2, hb2⟩ := grow s1 #[.slice D1 d.tables.length d1, .slice D2 d.procs.length d2] 25
  obtain ⟨g1, hg1⟩ : ∃ g, g = W.heap.size := ⟨_, rfl⟩
  obtain ⟨g2, hg2⟩ : ∃ g, g = W.heap.size + 1 := ⟨_, rfl⟩
  have BX1 := Aside0.mk (blk_below b1 hb2)
  have BX2 := Aside0.mk b2
  rw [← hg1] at BX1
  rw [← hg2] at BX2
  have hb12 := below_then hb1 hb1.size hb2
  have HB2 := Aside0.mk hb12
  have CA1 := Aside0.mk (Kd.C_below hA1 hb12)
  have CA2 := Aside0.mk (Kd.C_below hA2 hb12)
  have CD1 := Aside0.mk (Kd.C_below hD1 hb12)
  have CD2 := Aside0.mk (Kd.C_below hD2 hb12)
  have Z0 := Aside0.mk hZ0
  have Z1 := Aside0.mk hZ1
  clear hA1 hA2 hD1 hD2 hZ0 hZ1 hb1 hb2 hb12 b1 b2 s1 s2
  go_enter Try.func7, Try.ntmps7
  go_wp2_with fail
  rw [← hw1, ← hw2, ← hg2, ← hg1]
  clear hw1 hw2 hg1 hg2
  refine (weighs_any c A1 a1 A2 a2 w2 CA1.out CA2.out Z0.out.2 Z0.out.1).mono ?_
  rintro e w3 ⟨n, rfl, hb3⟩
  have B3 := Aside0.mk hb3
  clear hb3
  have k0 : w3.cell? ⟨g2, 0, none⟩ = some (.slice D1 d.tables.length d1) := blk_cell (blk_below BX2.out B3.out) 0
  have k1 : w3.cell? ⟨g2, 1, none⟩ = some (.slice D2 d.procs.length d2) := blk_cell (blk_below BX2.out B3.out) 1
  go_wp2_with fail
  clear k0 k1
  refine (weighs_any d D1 d1 D2 d2 w3 (Kd.C_below CD1.out B3.out) (Kd.C_below CD2.out B3.out) Z1.out.2 Z1.out.1).mono ?_
  rintro e w4 ⟨m, rfl, hb4⟩
  have B4 := Aside0.mk (below_then B3.out B3.out.size hb4)
  clear hb4 B3
  by_cases hbig : 2147483647 < n ∨ 2147483647 < m
  · have hend : Below W.heap.size W w4 := below_then HB2.out HB2.out.size B4.out
    by_cases h1 : 2147483647 < n
    · go_wp2_with fail
      go_ret
      exact ⟨rfl, hend⟩
    · have h2 : 2147483647 < m := hbig.resolve_left h1
      go_wp2_with fail
      go_ret
      exact ⟨rfl, hend⟩
  · have h1 : ¬ 2147483647 < n := fun h => hbig (.inl h)
    have h2 : ¬ 2147483647 < m := fun h => hbig (.inr h)
    clear hbig
    go_wp2_with fail
    refine (awake_any w4).mono ?_
    rintro e w5 ⟨rfl, hb5⟩
    have B5 := Aside0.mk (below_then B4.out B4.out.size hb5)
    clear hb5 B4
    have k0 : w5.cell? ⟨g1, 0, none⟩ = some (.slice A1 c.tables.length a1) := blk_cell (blk_below BX1.out B5.out) 0
    have k1 : w5.cell? ⟨g1, 1, none⟩ = some (.slice A2 c.procs.length a2) := blk_cell (blk_below BX1.out B5.out) 1
    go_wp2_with fail
    clear k0 k1
    refine (rightRef_any c A1 a1 A2 a2 w5 (Kd.C_below CA1.out B5.out) (Kd.C_below CA2.out B5.out) Z0.out.2).mono ?_
    rintro e w6 ⟨rfl, hb6⟩
    have B6 := Aside0.mk (below_then B5.out B5.out.size hb6)
    clear hb6 B5
    have k0 : w6.cell? ⟨g2, 0, none⟩ = some (.slice D1 d.tables.length d1) := blk_cell (blk_below BX2.out B6.out) 0
    have k1 : w6.cell? ⟨g2, 1, none⟩ = some (.slice D2 d.procs.length d2) := blk_cell (blk_below BX2.out B6.out) 1
    go_wp2_with fail
    clear k0 k1
    refine (rightRef_any d D1 d1 D2 d2 w6 (Kd.C_below CD1.out B6.out) (Kd.C_below CD2.out B6.out) Z1.out.2).mono ?_
    rintro e w7 ⟨rfl, hb7⟩
    have B7 := Aside0.mk (below_then B6.out B6.out.size hb7)
    clear hb7 B6
    have k0 : w7.cell? ⟨g1, 0, none⟩ = some (.slice A1 c.tables.length a1) := blk_cell (blk_below BX1.out B7.out) 0
    have k1 : w7.cell? ⟨g1, 1, none⟩ = some (.slice A2 c.procs.length a2) := blk_cell (blk_below BX1.out B7.out) 1
    go_wp2_with fail
    clear k0 k1
    have hcs := enc_cases c
    have hds := enc_cases d
    obtain ⟨⟨es, ee⟩, hes⟩ : ∃ r, r = encO c := ⟨_, rfl⟩
    obtain ⟨⟨fs, fe⟩, hfs⟩ : ∃ r, r = encO d := ⟨_, rfl⟩
    rw [← hes] at hcs
    rw [← hfs] at hds
    dsimp only at hcs hds
    have HES := Aside0.mk hes
    have HFS := Aside0.mk hfs
    have HCS := Lib.hid hcs
    have HDS := Lib.hid hds
    clear hes hfs hcs hds
    refine (encode_any c A1 a1 A2 a2 w7 (Kd.C_below CA1.out B7.out) (Kd.C_below CA2.out B7.out)).mono ?_
    intro e w8 hq
    rw [← HES.out] at hq
    dsimp only at hq
    obtain ⟨rfl, hb8⟩ := hq
    have B8 := Aside0.mk (below_then B7.out B7.out.size hb8)
    clear hb8 B7
    have k0 : w8.cell? ⟨g2, 0, none⟩ = some (.slice D1 d.tables.length d1) := blk_cell (blk_below BX2.out B8.out) 0
    have k1 : w8.cell? ⟨g2, 1, none⟩ = some (.slice D2 d.procs.length d2) := blk_cell (blk_below BX2.out B8.out) 1
    go_wp2_with fail
    clear k0 k1
    refine (encode_any d D1 d1 D2 d2 w8 (Kd.C_below CD1.out B8.out) (Kd.C_below CD2.out B8.out)).mono ?_
    intro e w9 hq
    rw [← HFS.out] at hq
    dsimp only at hq
    obtain ⟨rfl, hb9⟩ := hq
    have B9 := Aside0.mk (below_then B8.out B8.out.size hb9)
    have hend : Below W.heap.size W w9 := below_then HB2.out HB2.out.size B9.out
    clear hb9 B8
    rcases HCS.out with ⟨hc, rfl, hcb, hcl⟩ | ⟨hc, rfl⟩
    · rw [decide_eq_true hc]
      rcases HDS.out with ⟨hd, rfl, hdb, hdl⟩ | ⟨hd, rfl⟩
      · rw [decide_eq_true hd]
        clear HES HFS HCS HDS
        have HCB := Lib.hid (And.intro hc hcb)
        have HDB := Lib.hid (And.intro hd hdb)
        clear hcb hdb hc hd
        go_wp2_with fail
        refine (decode_any es w9 (by omega)).mono ?_
        rintro e w10 ⟨r, hr, hco⟩
        obtain rfl := hr.1 c HCB.out.1 HCB.out.2
        have heq : es = fs ↔ c = d := by
          constructor
          · rintro rfl
            have h3 := hr.1 d HDB.out.1 HDB.out.2
            injection h3
          · rintro rfl
            exact bytesOf_inj (by rw [HCB.out.2, HDB.out.2])
        have HEQ := Lib.hid heq
        have hcoR := hco.open_
        dsimp only at hcoR
        obtain ⟨V1, v1, V2, v2, rfl, hV1, hV2, hb10⟩ := hcoR
        obtain ⟨w11, hw11, bb, s11, hb11⟩ := grow (W := w10) rfl #[.slice V1 c.tables.length v1, .slice V2 c.procs.length v2] 25
        obtain ⟨g3, hg3⟩ : ∃ g, g = w10.heap.size := ⟨_, rfl⟩
        rw [← hg3] at bb s11
        have B11 := Aside0.mk (below_then B9.out B9.out.size (below_then hb10 hb10.size hb11))
        have CV1 := Aside0.mk (Kd.C_below hV1 hb11)
        have CV2 := Aside0.mk (Kd.C_below hV2 hb11)
        have k0 : w11.cell? ⟨g3, 0, none⟩ = some (.slice V1 c.tables.length v1) := blk_cell bb 0
        have k1 : w11.cell? ⟨g3, 1, none⟩ = some (.slice V2 c.procs.length v2) := blk_cell bb 1
        have k2 : w11.cell? ⟨g1, 0, none⟩ = some (.slice A1 c.tables.length a1) := blk_cell (blk_below BX1.out B11.out) 0
        have k3 : w11.cell? ⟨g1, 1, none⟩ = some (.slice A2 c.procs.length a2) := blk_cell (blk_below BX1.out B11.out) 1
        clear hr heq hco hV1 hV2 hb10 hb11 bb s11 hend B9
        rw [hw11] at k0 k1 k2 k3
        rw [hg3] at k0 k1
        go_wp2_with fail
        rw [← hw11, ← hg3]
        clear hw11 hg3 k0 k1 k2 k3
        refine (same_any c V1 v1 V2 v2 c A1 a1 A2 a2 w11 CV1.out CV2.out (Kd.C_below CA1.out B11.out) (Kd.C_below CA2.out B11.out)).mono ?_
        intro e w12 hq
        rw [decide_eq_true rfl] at hq
        obtain ⟨rfl, hb12⟩ := hq
        have B12 := Aside0.mk (below_then B11.out B11.out.size hb12)
        clear hb12 B11 CV1 CV2
        have k0 : w12.cell? ⟨g1, 0, none⟩ = some (.slice A1 c.tables.length a1) := blk_cell (blk_below BX1.out B12.out) 0
        have k1 : w12.cell? ⟨g1, 1, none⟩ = some (.slice A2 c.procs.length a2) := blk_cell (blk_below BX1.out B12.out) 1
        have k2 : w12.cell? ⟨g2, 0, none⟩ = some (.slice D1 d.tables.length d1) := blk_cell (blk_below BX2.out B12.out) 0
        have k3 : w12.cell? ⟨g2, 1, none⟩ = some (.slice D2 d.procs.length d2) := blk_cell (blk_below BX2.out B12.out) 1
        go_wp2_with fail
        clear k0 k1 k2 k3
        refine (same_any c A1 a1 A2 a2 d D1 d1 D2 d2 w12 (Kd.C_below CA1.out B12.out) (Kd.C_below CA2.out B12.out) (Kd.C_below CD1.out B12.out) (Kd.C_below CD2.out B12.out)).mono ?_
        rintro e w13 ⟨rfl, hb13⟩
        have hend : Below W.heap.size W w13 := below_then HB2.out HB2.out.size (below_then B12.out B12.out.size hb13)
        clear hb13 B12
        by_cases hcd : c = d
        · have p3 : (es.toList == fs.toList) = true := str_eq_true (HEQ.out.2 hcd)
          rw [decide_eq_true hcd]
          clear HEQ HCB HDB
          go_wp2_with fail
          go_ret
          exact ⟨rfl, hend⟩
        · have p3 : (es.toList == fs.toList) = false := str_eq_false (fun h => hcd (HEQ.out.1 h))
          rw [decide_eq_false hcd]
          clear HEQ HCB HDB
          go_wp2_with fail
          go_ret
          exact ⟨rfl, hend⟩
      · rw [decide_eq_false hd]
        clear HES HFS HCS HDS hcb
        go_wp2_with fail
        go_ret
        exact ⟨rfl, hend⟩
    · rw [decide_eq_false hc]
      rcases HDS.out with ⟨hd, rfl, hdb, hdl⟩ | ⟨hd, rfl⟩
      · rw [decide_eq_true hd]
        clear HES HFS HCS HDS hdb
        go_wp2_with fail
        go_ret
        exact ⟨rfl, hend⟩
      · rw [decide_eq_false hd]
        clear HES HFS HCS HDS
        go_wp2_with fail
        go_ret
        exact ⟨rfl, hend⟩
end Go.Proofs.Ytcmgdieeclninaa

/- Layer 08: D64 plain: what a taken table makes -/
set_option linter.unusedVariables false
set_option linter.unusedSimpArgs false
namespace Go.Proofs.Ytcmgdieeclninaa
open Go.RowKit Go.Proofs.YtcmgdieeclninaaW.PrintWords
theorem posF_last {l : List ByteArray} {x : ByteArray} (h : ¬ x ∈ l) : posF (l ++ [x]) x = l.length := by
  unfold posF
  rw [if_pos (by simp), List.idxOf_append, if_neg h]
  simp
theorem names_snoc {l : List ByteArray} {x : ByteArray} (h : NamesOk l) (hx : NameOk x) (hn : ¬ x ∈ l) : NamesOk (l ++ [x]) := by
  refine ⟨fun s hs => ?_, ?_⟩
  · rcases List.mem_append.1 hs with hs | hs
    · exact h.1 s hs
    · rw [List.mem_singleton.1 hs]; exact hx
  · rw [List.nodup_append]
    refine ⟨h.2, by simp, fun a ha b hb => ?_⟩
    rw [List.mem_singleton.1 hb]
    rintro rfl
    exact hn ha
theorem addTab_ok {c : Cat} {t : Tab} (h : (addTab c t).1 = 0) : addTab c t = (0, ⟨c.tables ++ [t], c.procs⟩) ∧ RightCat ⟨c.tables ++ [t], c.procs⟩ ∧ ¬ t.name ∈ c.tables.map (·.name) := by
  unfold addTab at h ⊢
  by_cases h1 : RightCat c ∧ MayTab t
  · rw [if_pos h1] at h ⊢
    by_cases h2 : t.name ∈ c.tables.map (·.name)
    · rw [if_pos h2] at h; cases h
    · rw [if_neg h2] at h ⊢
      by_cases h3 : 8 ≤ c.tables.length
      · rw [if_pos h3] at h; cases h
      · rw [if_neg h3]
        obtain ⟨⟨q1, q2, q3, q4, q5, q6⟩, hm⟩ := h1
        refine ⟨rfl, ⟨by simp; omega, q2, fun x hx => ?_, q4, ?_, q6⟩, h2⟩
        · rcases List.mem_append.1 hx with hx | hx
          · exact q3 x hx
          · rw [List.mem_singleton.1 hx]; exact hm
        · rw [List.map_append]; exact names_snoc q5 hm.1 h2
  · rw [if_neg h1] at h; cases h
theorem addPrc_ok {c : Cat} {t : Prc} (h : (addPrc c t).1 = 0) : addPrc c t = (0, ⟨c.tables, c.procs ++ [t]⟩) ∧ RightCat ⟨c.tables, c.procs ++ [t]⟩ ∧ ¬ t.name ∈ c.procs.map (·.name) := by
  unfold addPrc at h ⊢
  by_cases h1 : RightCat c ∧ MayPrc t
  · rw [if_pos h1] at h ⊢
    by_cases h2 : t.name ∈ c.procs.map (·.name)
    · rw [if_pos h2] at h; cases h
    · rw [if_neg h2] at h ⊢
      by_cases h3 : 16 ≤ c.procs.length
      · rw [if_pos h3] at h; cases h
      · rw [if_neg h3]
        obtain ⟨⟨q1, q2, q3, q4, q5, q6⟩, hm⟩ := h1
        refine ⟨rfl, ⟨q1, by simp; omega, q3, fun x hx => ?_, q5, ?_⟩, h2⟩
        · rcases List.mem_append.1 hx with hx | hx
          · exact q4 x hx
          · rw [List.mem_singleton.1 hx]; exact hm
        · rw [List.map_append]; exact names_snoc q6 hm.1 h2
  · rw [if_neg h1] at h; cases h
/-- What was refused is empty. -/
theorem addTab_no {c : Cat} {t : Tab} (h : (addTab c t).1 ≠ 0) : (addTab c t).2 = ⟨[], []⟩ := by
  unfold addTab at h ⊢
  by_cases h1 : RightCat c ∧ MayTab t
  · rw [if_pos h1] at h ⊢
    by_cases h2 : t.name ∈ c.tables.map (·.name)
    · rw [if_pos h2]
    · rw [if_neg h2] at h ⊢
      by_cases h3 : 8 ≤ c.tables.length
      · rw [if_pos h3]
      · rw [if_neg h3] at h
        exact absurd rfl h
  · rw [if_neg h1]
theorem addPrc_no {c : Cat} {t : Prc} (h : (addPrc c t).1 ≠ 0) : (addPrc c t).2 = ⟨[], []⟩ := by
  unfold addPrc at h ⊢
  by_cases h1 : RightCat c ∧ MayPrc t
  · rw [if_pos h1] at h ⊢
    by_cases h2 : t.name ∈ c.procs.map (·.name)
    · rw [if_pos h2]
    · rw [if_neg h2] at h ⊢
      by_cases h3 : 16 ≤ c.procs.length
      · rw [if_pos h3]
      · rw [if_neg h3] at h
        exact absurd rfl h
  · rw [if_neg h1]
end Go.Proofs.Ytcmgdieeclninaa

/- Layer 08: D65 the law Grows: a catalog built piece by piece is right at each step, has each where it was put, and lasts through its bytes. -/
set_option linter.unusedVariables false
set_option linter.unusedSimpArgs false
namespace Go.Proofs.Ytcmgdieeclninaa
open Go.RowKit Go.Proofs.YtcmgdieeclninaaW.PrintWords Go.Proofs.YtcmgdieeclninaaW.PrintLast
theorem right0 : RightCat c0 := by decide +kernel
theorem sz_right {c : Cat} (h : RightCat c) : SzCat c := by
  refine ⟨by have := h.1; omega, by have := h.2.1; omega, fun t ht => ?_, fun p hp => ?_⟩
  · have hm := h.2.2.1 t ht
    obtain ⟨_, h1, h2, h3, _, _, h4, _, _, h5, _⟩ := hm
    exact ⟨by omega, by have := h4.2.1; omega, by omega, fun x hx => by have := (h5 x hx).2.1; omega⟩
  · have hm := h.2.2.2.1 p hp
    obtain ⟨_, _, _, h1, h2, h3, _⟩ := hm
    exact ⟨by omega, by omega⟩
set_option maxRecDepth 100000 in
set_option maxHeartbeats 8000000 in
theorem grows_any (A1 : Option Addr) (n1 a1 : Nat) (ts : List Tab) (A2 : Option Addr) (n2 a2 : Nat) (ps : List Prc) (W : World) (hT : kTab.C W A1 n1 ts) (hTn : n1 ≤ a1) (hZT : ts.length * 96 ≤ 140737488351232 ∧ ∀ x ∈ ts, SzTab x ∧ BdTab x)
    (hP : kPrc.C W A2 n2 ps) (hPn : n2 ≤ a2) (hZP : ps.length * 80 ≤ 140737488351232 ∧ ∀ x ∈ ps, SzPrc x ∧ BdPrc x) :
    Calls Try.prog 4 #[.slice A1 n1 a1, .slice A2 n2 a2] W fun e W' => e = .returned (.bool true) ∧ Below W.heap.size W W' := by
  obtain rfl : ts.length = n1 := hT.1
  obtain rfl : ps.length = n2 := hP.1
  have CT := Aside0.mk hT
  have CP := Aside0.mk hP
  have ZT := Aside0.mk hZT
  have ZP := Aside0.mk hZP
  have hz1 := hZT.1
  have hz2 := hZP.1
  clear hT hP hZT hZP
  go_enter Try.func4, Try.ntmps4
  go_wp2_with fail
  refine (weighs_any ⟨ts, ps⟩ A1 a1 A2 a2 W CT.out CP.out ⟨fun x hx => (ZT.out.2 x hx).2, fun x hx => (ZP.out.2 x hx).2⟩ ⟨hz1, hz2, fun x hx => (ZT.out.2 x hx).1, fun x hx => (ZP.out.2 x hx).1⟩).mono ?_
  rintro e w1 ⟨n, rfl, hb1⟩
  by_cases h1 : 2147483647 < n
  · go_wp2_with fail
    go_ret
    exact ⟨rfl, hb1⟩
  · go_wp2_with fail
    refine (awake_any w1).mono ?_
    rintro e w2 ⟨rfl, hb2⟩
    have B2 := below_then hb1 hb1.size hb2
    obtain ⟨w3, hw3, bb, s3, hb3⟩ := grow (W := w2) rfl #[.slice none 0 0, .slice none 0 0] 25
    obtain ⟨g7, hg7⟩ : ∃ g, g = w2.heap.size := ⟨_, rfl⟩
    rw [← hg7] at bb
    have hgw : W.heap.size ≤ g7 := by have := B2.size; omega
    have B3 := Aside0.mk (below_then B2 B2.size hb3)
    have BX := Aside0.mk bb
    clear hb1 hb2 hb3 B2 bb s3
    go_wp2_with fail
    rw [← hw3, ← hg7]
    clear hw3 hg7
    go_loopg [8] (ts.length + ps.length) (fun gn i wr => ∃ (k : Nat) (c : Cat) (V1 : Option Addr) (v1 : Nat) (V2 : Option Addr) (v2 : Nat), i = .int .i64 k ∧ Aside0 (k + gn = ts.length + ps.length ∧ RightCat c) ∧ Aside0 (Below W.heap.size W wr ∧ wr.heap[g7]? = some (Obj.cells #[.slice V1 c.tables.length v1, .slice V2 c.procs.length v2] 25 (0, 0)) ∧ kTab.R 30 wr W.heap.size (fun _ => True) (.slice V1 c.tables.length v1) c.tables ∧ kPrc.R 34 wr W.heap.size (fun _ => True) (.slice V2 c.procs.length v2) c.procs))
    case atStart => exact ⟨0, c0, none, 0, none, 0, rfl, ⟨by omega, right0⟩, ⟨B3.out, BX.out, Kd.R_nil _ _ _ _ _, Kd.R_nil _ _ _ _ _⟩⟩
    case round =>
      obtain ⟨k, c, V1, v1, V2, v2, rfl, ⟨hgn, hR⟩, hI⟩ := hrel
      have HGN := Lib.hid hgn
      have HR := Lib.hid hR
      have hkl : k ≤ ts.length + ps.length := by omega
      clear hgn hR
      by_cases hk : k < ts.length + ps.length ∧ k < 64
      · obtain ⟨hk1, hk2⟩ := hk
        have p0 : (k : Int) < (ts.length : Int) + (ps.length : Int) := by omega
        have p1 : (k : Int) < 64 := by omega
        by_cases hkt : k < ts.length
        · have p2 : (k : Int) < (ts.length : Int) := by omega
          obtain ⟨wd, hwd, bd, sd, hbd⟩ := grow (W := wr) rfl #[.slice none 0 0, .slice none 0 0] 25
          obtain ⟨g9, hg9⟩ : ∃ g, g = wr.heap.size := ⟨_, rfl⟩
          rw [← hg9] at bd
          have HD := Aside0.mk hbd
          have B9 := Aside0.mk bd
          have G7 := Aside0.mk (blk_below hI.out.2.1 hbd)
          obtain ⟨ad, t, T1, t1, T2, t2, T3, t3, rfl, hxt, hmem, _, e0, e1, e2, e3, e4, hc1, hc2, hc3⟩ := tab_at CT.out (Below.refl _ _) k hkt
          have hbw := below_then hI.out.1 hI.out.1.size hbd
          have q0 := pw_cell_below hbw e0
          have q1 := pw_cell_below hbw e1
          have q2 := pw_cell_below hbw e2
          have q3 := pw_cell_below hbw e3
          have q4 := pw_cell_below hbw e4
          have E0 := Lib.hid e0
          clear e0 e1 e2 e3 e4 hbw
          have CTT := Aside0.mk (And.intro hc1.2 (And.intro hc2.2 hc3.2))
          clear hc1 hc2 hc3 bd sd hbd
          have p3 : (0 : Int) ≤ k := by omega
          go_wp2_with fail
          rw [← hwd, ← hg9]
          have HG9 := Lib.hid hg9
          clear hwd hg9
          have f0 : wd.cell? ⟨g7, 0, none⟩ = some (.slice V1 c.tables.length v1) := blk_cell G7.out 0
          have f1 : wd.cell? ⟨g7, 1, none⟩ = some (.slice V2 c.procs.length v2) := blk_cell G7.out 1
          have HDD := Aside0.mk (below_then HD.out HD.out.size (below_drew (Below.refl wd.heap.size wd)))
          have HWD := Aside0.mk (below_then hI.out.1 hI.out.1.size HDD.out)
          obtain ⟨⟨ec, cd⟩, hr⟩ : ∃ r, r = addTab c t := ⟨_, rfl⟩
          have HRR := Aside0.mk hr
          clear hr
          refine start_ (n := 11) (S := fun w' => w'.cell? ⟨g7, 0, none⟩ = some (.slice V1 c.tables.length v1) ∧ w'.cell? ⟨g7, 1, none⟩ = some (.slice V2 c.procs.length v2) ∧ w'.cell? (ad.add (k * 5)) = some (.string t.name) ∧ w'.cell? { block := (ad.add (k * 5)).block, off := (ad.add (k * 5)).off + 1 } = some (.slice T1 t.cols.length t1) ∧ w'.cell? { block := (ad.add (k * 5)).block, off := (ad.add (k * 5)).off + 2 } = some (.slice T2 t.key.length t2) ∧ w'.cell? { block := (ad.add (k * 5)).block, off := (ad.add (k * 5)).off + 3 } = some (.int .i64 t.part) ∧ w'.cell? { block := (ad.add (k * 5)).block, off := (ad.add (k * 5)).off + 4 } = some (.slice T3 t.idx.length t3)) (ds := [9]) #[false, false, false, false, false, false, false, false, false, false, false] (by kernel_rfl) rfl rfl ⟨f0, f1, q0, q1, q2, q3, q4⟩ (fun hHeld => ?_)
          refine pure_ (i := 1) (N := some 44) (v := ?_) (a' := ?_) #[false, true, false, false, false, false, false, false, false, false, false] rfl rfl (by kernel_rfl) (fun _ _ _ h => h) (Or.inl ⟨by rfl, ?_⟩) ?_ ?_
          rotate_left
          · intro w'
            go_simp
            with_reducible rfl
          rotate_left
          · simp only [Act.put, List.setIfInBounds_toArray, List.set_cons_zero, List.set_cons_succ, i64_w, i32_w]
            rfl
          refine pure_ (i := 2) (N := some 45) (v := ?_) (a' := ?_) #[false, true, true, false, false, false, false, false, false, false, false] rfl rfl (by kernel_rfl) (fun _ _ _ h => h) (Or.inl ⟨by rfl, ?_⟩) ?_ ?_
          rotate_left
          · intro w'
            go_simp
            with_reducible rfl
          rotate_left
          · simp only [Act.put, List.setIfInBounds_toArray, List.set_cons_zero, List.set_cons_succ, i64_w, i32_w]
            rfl
          refine pure_ (i := 3) (N := some 46) (v := ?_) (a' := ?_) #[false, true, true, true, false, false, false, false, false, false, false] rfl rfl (by kernel_rfl) (fun _ _ _ h => h) (Or.inl ⟨by rfl, ?_⟩) ?_ ?_
          rotate_left
          · intro w'
            go_simp
            with_reducible rfl
          rotate_left
          · simp only [Act.put, List.setIfInBounds_toArray, List.set_cons_zero, List.set_cons_succ, i64_w, i32_w]
            rfl
          refine take_ (i := 0) (N := some 43) (v := ?_) (a' := ?_) #[true, true, true, true, false, false, false, false, false, false, false] rfl rfl (by kernel_rfl) (fun _ _ _ h => h) (Or.inl ⟨by rfl, ?_⟩) hHeld ?_ ?_
          rotate_left
          · rintro w' ⟨s0, s1, s2, s3, s4, s5, s6⟩
            go_simp
            with_reducible rfl
          rotate_left
          · simp only [Act.put, List.setIfInBounds_toArray, List.set_cons_zero, List.set_cons_succ, i64_w, i32_w]
            rfl
          refine take_ (i := 4) (N := some 47) (v := ?_) (a' := ?_) #[true, true, true, true, true, false, false, false, false, false, false] rfl rfl (by kernel_rfl) (fun _ _ _ h => h) (Or.inl ⟨by rfl, ?_⟩) hHeld ?_ ?_
          rotate_left
          · rintro w' ⟨s0, s1, s2, s3, s4, s5, s6⟩
            go_simp
            with_reducible rfl
          rotate_left
          · simp only [Act.put, List.setIfInBounds_toArray, List.set_cons_zero, List.set_cons_succ, i64_w, i32_w]
            rfl
          refine one_ (i := 5) (N := some 48) #[true, true, true, true, true, true, false, false, false, false, false] rfl rfl (by kernel_rfl) (by decide) (fun K hK => ?_)
          refine goes_ Try.func14 (by kernel_rfl) rfl #[.agg #[.slice V1 c.tables.length v1, .slice V2 c.procs.length v2], .agg #[.string t.name, .slice T1 t.cols.length t1, .slice T2 t.key.length t2, .int .i64 t.part, .slice T3 t.idx.length t3]] (by rfl) rfl rfl (by simp only [List.map_toArray, List.map_cons, List.map_nil]; rfl) ?_
          with_reducible refine (addTab_any c V1 v1 V2 v2 t T1 t1 T2 t2 T3 t3 wd.drew (Kd.C_below (Kd.R_reads' hI.out.2.2.1).2.2 HDD.out) (Kd.C_below (Kd.R_reads' hI.out.2.2.2).2.2 HDD.out) (sz_right HR.out) (Kd.C_below CTT.out.1 HWD.out) (Kd.C_below CTT.out.2.1 HWD.out) (Kd.C_below CTT.out.2.2 HWD.out) (ZT.out.2 t hmem).1).mono ?_
          rintro e we hco
          rw [← HRR.out] at hco
          obtain ⟨E1, E2, rfl, ⟨hE1, hE2⟩, hbe⟩ := hco
          obtain ⟨U1, u1, hu1⟩ := Kd.R_slice hE1
          obtain ⟨U2, u2, hu2⟩ := Kd.R_slice hE2
          subst hu1 hu2
          refine ⟨_, rfl, ?_⟩
          have hG9 := blk_below (blk_below B9.out (below_drew (Below.refl wd.heap.size wd))) hbe
          refine hK.out _ _ ⟨pw_cell_below hbe f0, pw_cell_below hbe f1, pw_cell_below hbe q0, pw_cell_below hbe q1, pw_cell_below hbe q2, pw_cell_below hbe q3, pw_cell_below hbe q4⟩ (fun hHeld => ?_)
          clear hK K
          refine norm_ (a' := ?_) ?_ ?_
          rotate_left
          · show Act.put _ (some 48) _ = _
            simp only [Act.put, List.setIfInBounds_toArray, List.set_cons_zero, List.set_cons_succ, i64_w, i32_w]
            rfl
          refine pure_ (i := 6) (N := some 42) (v := ?_) (a' := ?_) #[true, true, true, true, true, true, true, false, false, false, false] rfl rfl (by kernel_rfl) (fun _ _ _ h => h) (Or.inl ⟨by rfl, ?_⟩) ?_ ?_
          rotate_left
          · intro w'
            go_simp
            with_reducible rfl
          rotate_left
          · simp only [Act.put, List.setIfInBounds_toArray, List.set_cons_zero, List.set_cons_succ, i64_w, i32_w]
            rfl
          refine pure_ (i := 7) (N := some 49) (v := ?_) (a' := ?_) #[true, true, true, true, true, true, true, true, false, false, false] rfl rfl (by kernel_rfl) (fun _ _ _ h => h) (Or.inl ⟨by rfl, ?_⟩) ?_ ?_
          rotate_left
          · intro w'
            go_simp
            with_reducible rfl
          rotate_left
          · simp only [Act.put, List.setIfInBounds_toArray, List.set_cons_zero, List.set_cons_succ, i64_w, i32_w]
            rfl
          refine pure_ (i := 8) (N := some 50) (v := ?_) (a' := ?_) #[true, true, true, true, true, true, true, true, true, false, false] rfl rfl (by kernel_rfl) (fun _ _ _ h => h) (Or.inl ⟨by rfl, ?_⟩) ?_ ?_
          rotate_left
          · intro w'
            go_simp
            with_reducible rfl
          rotate_left
          · simp only [Act.put, List.setIfInBounds_toArray, List.set_cons_zero, List.set_cons_succ, i64_w, i32_w]
            rfl
          refine last_ (i := 9) (N := none) #[true, true, true, true, true, true, true, true, true, true, false] rfl rfl (by kernel_rfl) (by decide) (fun K hK => ?_)
          have y1 := blk_cell hG9 0
          have y2 := blk_frozen hG9 0
          have y3 := blk_cell hG9 1
          have y4 := blk_frozen hG9 1
          refine skip_ (w1 := ?_) (by rfl) rfl ?_ ?_
          rotate_left
          · go_simp
            rfl
          refine hK.out _ _ ?_
          clear hK K
          refine pure_ (i := 10) (N := some 10) (v := ?_) (a' := ?_) #[true, true, true, true, true, true, true, true, true, true, true] rfl rfl (by kernel_rfl) (fun _ _ _ h => h) (Or.inl ⟨by rfl, ?_⟩) ?_ ?_
          rotate_left
          · intro w'
            go_simp
            with_reducible rfl
          rotate_left
          · simp only [Act.put, List.setIfInBounds_toArray, List.set_cons_zero, List.set_cons_succ, i64_w, i32_w]
            rfl
          refine done_ (by kernel_rfl) ?_
          dsimp only at hE1 hE2
          have hmf := (mod_setCell we g9 0 (.slice U1 cd.tables.length u1)).trans (mod_setCell _ g9 1 (.slice U2 cd.procs.length u2))
          have hG9f := blk_put (cs' := #[.slice U1 cd.tables.length u1, .slice U2 cd.procs.length u2]) (blk_put (cs' := #[.slice U1 cd.tables.length u1, .slice none 0 0]) hG9 0 (.slice U1 cd.tables.length u1) rfl) 1 (.slice U2 cd.procs.length u2) rfl
          obtain ⟨wf, hwf⟩ : ∃ u, u = (we.setCell ⟨g9, 0, none⟩ (.slice U1 cd.tables.length u1)).setCell ⟨g9, 1, none⟩ (.slice U2 cd.procs.length u2) := ⟨_, rfl⟩
          rw [← hwf] at hmf hG9f ⊢
          have hg9 : g9 = wr.heap.size := by have := HG9.out; exact this
          have hcw := below_then HDD.out HDD.out.size hbe
          have HF := Aside0.mk (show Below wr.heap.size wr wf by rw [hwf]; exact (hcw.setCell (by show wr.heap.size ≤ g9; omega) _).setCell (by show wr.heap.size ≤ g9; omega) _)
          have hdl : wr.heap.size < wd.heap.size := by have := blk_lt B9.out; omega
          have RE1 := Aside0.mk (R_up (N := wd.heap.size) (Kd.R_mono (ok' := fun q => wd.heap.size ≤ q) (Kd.R_bound hE1) (fun q hq => hq.2.1)) (fun q h => h) hmf (fun i hi => by omega))
          have RE2 := Aside0.mk (R_up (N := wd.heap.size) (Kd.R_mono (ok' := fun q => wd.heap.size ≤ q) (Kd.R_bound hE2) (fun q hq => hq.2.1)) (fun q h => h) hmf (fun i hi => by omega))
          have G9 := Aside0.mk hG9f
          clear hcw hG9f hmf hE1 hE2 hwf hbe hG9 y1 y2 y3 y4 f0 f1 q0 q1 q2 q3 q4 hHeld HDD HWD B9 G7 hg9
          have BWf := Aside0.mk (below_then hI.out.1 hI.out.1.size HF.out)
          have G7f := Aside0.mk (blk_below hI.out.2.1 HF.out)
          by_cases hec : ec = 0
          · subst hec
            obtain ⟨hok1, hok2, hok3⟩ := addTab_ok (c := c) (t := t) (by rw [← HRR.out])
            rw [← HRR.out] at hok1
            have hcdt : cd.tables = c.tables ++ [t] := by injection hok1 with _ h; rw [h]
            have hcdp : cd.procs = c.procs := by injection hok1 with _ h; rw [h]
            have hcdr : RightCat cd := by injection hok1 with _ h; rw [h]; exact hok2
            have HCD := Lib.hid (And.intro hcdr (And.intro hcdt (And.intro hcdp hok3)))
            clear hok1 hok2 hok3 hcdt hcdp hcdr HRR
            have CE1 := Aside0.mk (Kd.R_reads' RE1.out).2.2
            have CE2 := Aside0.mk (Kd.R_reads' RE2.out).2.2
            have x0 : wf.cell? ⟨g9, 0, none⟩ = some (.slice U1 cd.tables.length u1) := blk_cell G9.out 0
            have x1 : wf.cell? ⟨g9, 1, none⟩ = some (.slice U2 cd.procs.length u2) := blk_cell G9.out 1
            clear RE1 RE2
            go_wp2_with fail
            clear x0 x1
            refine (right_any cd U1 u1 U2 u2 wf CE1.out CE2.out).mono ?_
            intro e wg hq
            rw [decide_eq_true HCD.out.1] at hq
            obtain ⟨rfl, hbg⟩ := hq
            have BG := Aside0.mk hbg
            clear hbg
            have x0 : wg.cell? ⟨g9, 0, none⟩ = some (.slice U1 cd.tables.length u1) := blk_cell (blk_below G9.out BG.out) 0
            have x1 : wg.cell? ⟨g9, 1, none⟩ = some (.slice U2 cd.procs.length u2) := blk_cell (blk_below G9.out BG.out) 1
            go_wp2_with fail
            clear x0 x1
            have hcs := enc_cases cd
            obtain ⟨⟨es, ee⟩, hes⟩ : ∃ r, r = encO cd := ⟨_, rfl⟩
            rw [← hes] at hcs
            dsimp only at hcs
            rcases hcs with ⟨_, rfl, hcb, hcl⟩ | ⟨hno, _⟩
            case inr => exact absurd HCD.out.1 hno
            have HES := Aside0.mk hes
            have HCB := Lib.hid hcb
            clear hes hcb
            refine (encode_any cd U1 u1 U2 u2 wg (Kd.C_below CE1.out BG.out) (Kd.C_below CE2.out BG.out)).mono ?_
            intro e wh hq
            rw [← HES.out] at hq
            dsimp only at hq
            obtain ⟨rfl, hbh⟩ := hq
            have BH := Aside0.mk (below_then BG.out BG.out.size hbh)
            clear hbh BG
            go_wp2_with fail
            refine (decode_any es wh (by omega)).mono ?_
            rintro e wi ⟨r, hr, hco⟩
            obtain rfl := hr.1 cd HCD.out.1 HCB.out
            obtain ⟨E1, E2, rfl, ⟨hE1, hE2⟩, hbi⟩ := hco
            dsimp only at hE1 hE2
            obtain ⟨N1, n1, hn1⟩ := Kd.R_slice hE1
            obtain ⟨N2, n2, hn2⟩ := Kd.R_slice hE2
            subst hn1 hn2
            obtain ⟨wj, hwj, bj, sj, hbj⟩ := grow (W := wi) rfl #[.slice N1 cd.tables.length n1, .slice N2 cd.procs.length n2] 25
            obtain ⟨g14, hg14⟩ : ∃ g, g = wi.heap.size := ⟨_, rfl⟩
            rw [← hg14] at bj
            have hbfj := below_then BH.out BH.out.size (below_then hbi hbi.size hbj)
            have hG7j := blk_below G7f.out hbfj
            have hlen : ((cd.tables.length : Int) + (cd.procs.length : Int) != (c.tables.length : Int) + (c.procs.length : Int) + 1) = false := int_bne_false (by rw [HCD.out.2.1, HCD.out.2.2.1, List.length_append, List.length_singleton]; omega)
            have hwl : W.heap.size ≤ wh.heap.size := by have h1 := BWf.out.size; have h2 := BH.out.size; omega
            have hg7l : g7 < wh.heap.size := by have h1 := blk_lt G7f.out; have h2 := BH.out.size; omega
            have RN1 := Aside0.mk (Kd.R_below hE1 hbj)
            have RN2 := Aside0.mk (Kd.R_below hE2 hbj)
            have hms := (mod_setCell wj g7 0 (.slice N1 cd.tables.length n1)).trans (mod_setCell _ g7 1 (.slice N2 cd.procs.length n2))
            have hG7k := blk_put (cs' := #[.slice N1 cd.tables.length n1, .slice N2 cd.procs.length n2]) (blk_put (cs' := #[.slice N1 cd.tables.length n1, .slice V2 c.procs.length v2]) hG7j 0 (.slice N1 cd.tables.length n1) rfl) 1 (.slice N2 cd.procs.length n2) rfl
            have z0 : wj.cell? ⟨g14, 0, none⟩ = some (.slice N1 cd.tables.length n1) := blk_cell bj 0
            have z1 : wj.cell? ⟨g14, 1, none⟩ = some (.slice N2 cd.procs.length n2) := blk_cell bj 1
            have z2 : wj.cell? ⟨g7, 0, none⟩ = some (.slice V1 c.tables.length v1) := blk_cell hG7j 0
            have z3 : wj.cell? ⟨g7, 1, none⟩ = some (.slice V2 c.procs.length v2) := blk_cell hG7j 1
            have z4 : ∀ i, wj.frozen? ⟨g7, i, none⟩ = false := fun i => blk_frozen hG7j i
            have z5 : ((wj.setCell ⟨g7, 0, none⟩ (.slice N1 cd.tables.length n1)).setCell ⟨g7, 1, none⟩ (.slice N2 cd.procs.length n2)).cell? ⟨g7, 0, none⟩ = some (.slice N1 cd.tables.length n1) := blk_cell hG7k 0
            have G7k := Aside0.mk hG7k
            have HMS := Aside0.mk hms
            have HFJ := Aside0.mk hbfj
            clear hE1 hE2 hr hbi hbj bj sj hbfj hG7j hG7k hms
            rw [hwj] at z0 z1 z2 z3 z4 z5
            rw [hg14] at z0 z1
            have HWJ := Aside0.mk hwj
            have HG14 := Aside0.mk hg14
            clear hwj hg14
            have hk1' : cd.tables.length ≤ 8 := HCD.out.1.1
            have hk2' : cd.procs.length ≤ 16 := HCD.out.1.2.1
            have hk3' : c.tables.length ≤ 8 := HR.out.1
            have hk4' : c.procs.length ≤ 16 := HR.out.2.1
            have hk5' : 1 ≤ cd.tables.length := by rw [HCD.out.2.1]; simp
            go_wp2_with fail
            rw [← HWJ.out]
            obtain ⟨wk, hwk⟩ : ∃ u, u = (wj.setCell ⟨g7, 0, none⟩ (.slice N1 cd.tables.length n1)).setCell ⟨g7, 1, none⟩ (.slice N2 cd.procs.length n2) := ⟨_, rfl⟩
            have hms := HMS.out
            have hG7 := G7k.out
            rw [← hwk] at hms hG7 ⊢
            have hbk := Mod.below (below_then BWf.out BWf.out.size HFJ.out) hms (by have := BWf.out.size; have := HFJ.out.size; omega) (fun i hi => by omega)
            have g0 : wk.cell? ⟨g7, 0, none⟩ = some (.slice N1 cd.tables.length n1) := blk_cell hG7 0
            have g1 : wk.cell? ⟨g7, 1, none⟩ = some (.slice N2 cd.procs.length n2) := blk_cell hG7 1
            have q0 : wk.cell? (ad.add (k * 5)) = some (.string t.name) := pw_cell_below hbk E0.out
            have RK1 := Aside0.mk (Kd.R_lower (base' := W.heap.size) (R_up (N := wh.heap.size) (Kd.R_mono (ok' := fun q => wh.heap.size ≤ q) (Kd.R_bound RN1.out) (fun q hq => hq.2.1)) (fun q h => h) hms (fun i hi => by omega)) hwl)
            have RK2 := Aside0.mk (Kd.R_lower (base' := W.heap.size) (R_up (N := wh.heap.size) (Kd.R_mono (ok' := fun q => wh.heap.size ≤ q) (Kd.R_bound RN2.out) (fun q hq => hq.2.1)) (fun q h => h) hms (fun i hi => by omega)) hwl)
            have HBK := Aside0.mk hbk
            have G7K := Aside0.mk hG7
            have CK1 := Aside0.mk (Kd.C_below (Kd.R_reads' RK1.out).2.2 (below_drew (Below.refl wk.heap.size wk)))
            have hfv : foundV (posF (cd.tables.map (·.name)) t.name) = (.int .i64 ((cd.tables.length : Int) - 1), .int .i64 0) := by
              rw [HCD.out.2.1, List.map_append, show [t].map (·.name) = [t.name] from rfl, posF_last HCD.out.2.2.2, List.length_map, List.length_append, List.length_singleton]
              unfold foundV
              rw [if_neg (by omega), show ((c.tables.length + 1 : Nat) : Int) - 1 = (c.tables.length : Int) from by omega]
            clear hms hG7 hbk hwk z0 z1 z2 z3 z4 z5 G7k HMS HWJ HG14 RN1 RN2 HFJ
            refine start_ (n := 12) (S := fun w' => w'.cell? ⟨g7, 0, none⟩ = some (.slice N1 cd.tables.length n1) ∧ w'.cell? ⟨g7, 1, none⟩ = some (.slice N2 cd.procs.length n2) ∧ w'.cell? (ad.add (k * 5)) = some (.string t.name)) (ds := []) #[false, false, false, false, false, false, false, false, false, false, false, false] (by kernel_rfl) rfl rfl ⟨g0, g1, q0⟩ (fun hHeld => ?_)
            refine pure_ (i := 1) (N := some 126) (v := ?_) (a' := ?_) #[false, true, false, false, false, false, false, false, false, false, false, false] rfl rfl (by kernel_rfl) (fun _ _ _ h => h) (Or.inl ⟨by rfl, ?_⟩) ?_ ?_
            rotate_left
            · intro w'
              go_simp
              with_reducible rfl
            rotate_left
            · simp only [Act.put, List.setIfInBounds_toArray, List.set_cons_zero, List.set_cons_succ, i64_w, i32_w]
              rfl
            refine pure_ (i := 2) (N := some 127) (v := ?_) (a' := ?_) #[false, true, true, false, false, false, false, false, false, false, false, false] rfl rfl (by kernel_rfl) (fun _ _ _ h => h) (Or.inl ⟨by rfl, ?_⟩) ?_ ?_
            rotate_left
            · intro w'
              go_simp
              with_reducible rfl
            rotate_left
            · simp only [Act.put, List.setIfInBounds_toArray, List.set_cons_zero, List.set_cons_succ, i64_w, i32_w]
              rfl
            refine pure_ (i := 3) (N := some 128) (v := ?_) (a' := ?_) #[false, true, true, true, false, false, false, false, false, false, false, false] rfl rfl (by kernel_rfl) (fun _ _ _ h => h) (Or.inl ⟨by rfl, ?_⟩) ?_ ?_
            rotate_left
            · intro w'
              go_simp
              with_reducible rfl
            rotate_left
            · simp only [Act.put, List.setIfInBounds_toArray, List.set_cons_zero, List.set_cons_succ, i64_w, i32_w]
              rfl
            refine pure_ (i := 4) (N := some 129) (v := ?_) (a' := ?_) #[false, true, true, true, true, false, false, false, false, false, false, false] rfl rfl (by kernel_rfl) (fun _ _ _ h => h) (Or.inl ⟨by rfl, ?_⟩) ?_ ?_
            rotate_left
            · intro w'
              go_simp
              with_reducible rfl
            rotate_left
            · simp only [Act.put, List.setIfInBounds_toArray, List.set_cons_zero, List.set_cons_succ, i64_w, i32_w]
              rfl
            refine take_ (i := 0) (N := some 125) (v := ?_) (a' := ?_) #[true, true, true, true, true, false, false, false, false, false, false, false] rfl rfl (by kernel_rfl) (fun _ _ _ h => h) (Or.inl ⟨by rfl, ?_⟩) hHeld ?_ ?_
            rotate_left
            · rintro w' ⟨s0, s1, s2⟩
              go_simp
              with_reducible rfl
            rotate_left
            · simp only [Act.put, List.setIfInBounds_toArray, List.set_cons_zero, List.set_cons_succ, i64_w, i32_w]
              rfl
            refine take_ (i := 5) (N := some 130) (v := ?_) (a' := ?_) #[true, true, true, true, true, true, false, false, false, false, false, false] rfl rfl (by kernel_rfl) (fun _ _ _ h => h) (Or.inl ⟨by rfl, ?_⟩) hHeld ?_ ?_
            rotate_left
            · rintro w' ⟨s0, s1, s2⟩
              go_simp
              with_reducible rfl
            rotate_left
            · simp only [Act.put, List.setIfInBounds_toArray, List.set_cons_zero, List.set_cons_succ, i64_w, i32_w]
              rfl
            refine one_ (i := 6) (N := some 131) #[true, true, true, true, true, true, true, false, false, false, false, false] rfl rfl (by kernel_rfl) (by decide) (fun K hK => ?_)
            refine goes_ Try.func25 (by kernel_rfl) rfl #[.agg #[.slice N1 cd.tables.length n1, .slice N2 cd.procs.length n2], .string t.name] (by rfl) rfl rfl (by simp only [List.map_toArray, List.map_cons, List.map_nil]; rfl) ?_
            with_reducible refine (findTable_any N1 cd.tables.length n1 N2 cd.procs.length n2 cd.tables t.name wk.drew CK1.out).mono ?_
            rintro e wl ⟨he, hbe2⟩
            rw [hfv] at he
            subst he
            refine ⟨_, rfl, ?_⟩
            refine hK.out _ _ ⟨pw_cell_below hbe2 g0, pw_cell_below hbe2 g1, pw_cell_below hbe2 q0⟩ (fun hHeld => ?_)
            clear hK K
            refine norm_ (a' := ?_) ?_ ?_
            rotate_left
            · show Act.put _ (some 131) _ = _
              simp only [Act.put, List.setIfInBounds_toArray, List.set_cons_zero, List.set_cons_succ, i64_w, i32_w]
              rfl
            refine pure_ (i := 7) (N := some 124) (v := ?_) (a' := ?_) #[true, true, true, true, true, true, true, true, false, false, false, false] rfl rfl (by kernel_rfl) (fun _ _ _ h => h) (Or.inl ⟨by rfl, ?_⟩) ?_ ?_
            rotate_left
            · intro w'
              go_simp
              with_reducible rfl
            rotate_left
            · simp only [Act.put, List.setIfInBounds_toArray, List.set_cons_zero, List.set_cons_succ, i64_w, i32_w]
              rfl
            refine pure_ (i := 8) (N := some 132) (v := ?_) (a' := ?_) #[true, true, true, true, true, true, true, true, true, false, false, false] rfl rfl (by kernel_rfl) (fun _ _ _ h => h) (Or.inl ⟨by rfl, ?_⟩) ?_ ?_
            rotate_left
            · intro w'
              go_simp
              with_reducible rfl
            rotate_left
            · simp only [Act.put, List.setIfInBounds_toArray, List.set_cons_zero, List.set_cons_succ, i64_w, i32_w]
              rfl
            refine pure_ (i := 9) (N := some 133) (v := ?_) (a' := ?_) #[true, true, true, true, true, true, true, true, true, true, false, false] rfl rfl (by kernel_rfl) (fun _ _ _ h => h) (Or.inl ⟨by rfl, ?_⟩) ?_ ?_
            rotate_left
            · intro w'
              go_simp
              with_reducible rfl
            rotate_left
            · simp only [Act.put, List.setIfInBounds_toArray, List.set_cons_zero, List.set_cons_succ, i64_w, i32_w]
              rfl
            refine pure_ (i := 10) (N := some 16) (v := ?_) (a' := ?_) #[true, true, true, true, true, true, true, true, true, true, true, false] rfl rfl (by kernel_rfl) (fun _ _ _ h => h) (Or.inl ⟨by rfl, ?_⟩) ?_ ?_
            rotate_left
            · intro w'
              go_simp
              with_reducible rfl
            rotate_left
            · simp only [Act.put, List.setIfInBounds_toArray, List.set_cons_zero, List.set_cons_succ, i64_w, i32_w]
              rfl
            refine pure_ (i := 11) (N := some 10) (v := ?_) (a' := ?_) #[true, true, true, true, true, true, true, true, true, true, true, true] rfl rfl (by kernel_rfl) (fun _ _ _ h => h) (Or.inl ⟨by rfl, ?_⟩) ?_ ?_
            rotate_left
            · intro w'
              go_simp
              with_reducible rfl
            rotate_left
            · simp only [Act.put, List.setIfInBounds_toArray, List.set_cons_zero, List.set_cons_succ, i64_w, i32_w]
              rfl
            refine done_ (by kernel_rfl) ?_
            have hbl := below_then (below_drew (Below.refl wk.heap.size wk)) (Nat.le_refl _) hbe2
            have BL := Aside0.mk (below_then HBK.out HBK.out.size hbl)
            have GL := Aside0.mk (blk_below G7K.out hbl)
            have RL1 := Aside0.mk (Kd.R_below RK1.out hbl)
            have RL2 := Aside0.mk (Kd.R_below RK2.out hbl)
            clear hbl hbe2 hHeld hfv g0 g1 q0
            go_wp2_with fail
            go_roundg (ts.length + ps.length - (k + 1))
            case measure => have := HGN.out; omega
            case rel => exact ⟨k + 1, cd, N1, n1, N2, n2, by go_num, ⟨by have := HGN.out; omega, HCD.out.1⟩, ⟨BL.out, GL.out, Kd.R_mono RL1.out (fun _ _ => trivial), Kd.R_mono RL2.out (fun _ _ => trivial)⟩⟩
          · have hcd : cd = ⟨[], []⟩ := by have h := addTab_no (c := c) (t := t) (by rw [← HRR.out]; exact hec); rw [← HRR.out] at h; exact h
            subst hcd
            have p4 : (ec != 0) = true := int_bne_true hec
            have x0 : wf.cell? ⟨g9, 0, none⟩ = some (.slice U1 0 u1) := blk_cell G9.out 0
            have x1 : wf.cell? ⟨g9, 1, none⟩ = some (.slice U2 0 u2) := blk_cell G9.out 1
            have RC1 := Aside0.mk (Kd.R_below hI.out.2.2.1 HF.out)
            have RC2 := Aside0.mk (Kd.R_below hI.out.2.2.2 HF.out)
            clear RE1 RE2 HRR
            go_wp2_with fail
            go_roundg (ts.length + ps.length - (k + 1))
            case measure => have := HGN.out; omega
            case rel => exact ⟨k + 1, c, V1, v1, V2, v2, by go_num, ⟨by have := HGN.out; omega, HR.out⟩, ⟨BWf.out, G7f.out, RC1.out, RC2.out⟩⟩
        · have p2 : ¬ (k : Int) < (ts.length : Int) := by omega
          obtain ⟨m, hm⟩ : ∃ m, k = ts.length + m := ⟨k - ts.length, by omega⟩
          have HM := Lib.hid hm
          clear hm
          obtain ⟨wd, hwd, bd, sd, hbd⟩ := grow (W := wr) rfl #[.slice none 0 0, .slice none 0 0] 25
          obtain ⟨g9, hg9⟩ : ∃ g, g = wr.heap.size := ⟨_, rfl⟩
          rw [← hg9] at bd
          have HD := Aside0.mk hbd
          have B9 := Aside0.mk bd
          have G7 := Aside0.mk (blk_below hI.out.2.1 hbd)
          obtain ⟨ad, t, T1, t1, T2, t2, rfl, hxt, hmem, _, e0, e1, e2, e3, e4, hc1, hc2⟩ := prc_at CP.out (Below.refl _ _) m (by have := HM.out; omega)
          have hbw := below_then hI.out.1 hI.out.1.size hbd
          have q0 := pw_cell_below hbw e0
          have q1 := pw_cell_below hbw e1
          have q2 := pw_cell_below hbw e2
          have q3 := pw_cell_below hbw e3
          have q4 := pw_cell_below hbw e4
          have E0 := Lib.hid e0
          clear e0 e1 e2 e3 e4 hbw
          have CTT := Aside0.mk (And.intro hc1.2 hc2.2)
          clear hc1 hc2 bd sd hbd
          have p3 : (0 : Int) ≤ m := by omega
          have p4 : (m : Int) < ps.length := by have := HM.out; omega
          go_wp2_with fail
          rw [← hwd, ← hg9]
          have hs1 : (k : Int) - (ts.length : Int) = m := by have := HM.out; omega
          have hs3 : wrap64 (m : Int) = m := by unfold wrap64; omega
          have HG9 := Lib.hid hg9
          clear hwd hg9
          have f0 : wd.cell? ⟨g7, 0, none⟩ = some (.slice V1 c.tables.length v1) := blk_cell G7.out 0
          have f1 : wd.cell? ⟨g7, 1, none⟩ = some (.slice V2 c.procs.length v2) := blk_cell G7.out 1
          have HDD := Aside0.mk (below_then HD.out HD.out.size (below_drew (Below.refl wd.heap.size wd)))
          have HWD := Aside0.mk (below_then hI.out.1 hI.out.1.size HDD.out)
          obtain ⟨⟨ec, cd⟩, hr⟩ : ∃ r, r = addPrc c t := ⟨_, rfl⟩
          have HRR := Aside0.mk hr
          clear hr
          refine start_ (n := 14) (S := fun w' => w'.cell? ⟨g7, 0, none⟩ = some (.slice V1 c.tables.length v1) ∧ w'.cell? ⟨g7, 1, none⟩ = some (.slice V2 c.procs.length v2) ∧ w'.cell? (ad.add (m * 5)) = some (.string t.name) ∧ w'.cell? { block := (ad.add (m * 5)).block, off := (ad.add (m * 5)).off + 1 } = some (.slice T1 t.params.length t1) ∧ w'.cell? { block := (ad.add (m * 5)).block, off := (ad.add (m * 5)).off + 2 } = some (.slice T2 t.body.length t2) ∧ w'.cell? { block := (ad.add (m * 5)).block, off := (ad.add (m * 5)).off + 3 } = some (.int .i64 t.rows) ∧ w'.cell? { block := (ad.add (m * 5)).block, off := (ad.add (m * 5)).off + 4 } = some (.int .i64 t.bytes)) (ds := [12]) #[false, false, false, false, false, false, false, false, false, false, false, false, false, false] (by kernel_rfl) rfl rfl ⟨f0, f1, q0, q1, q2, q3, q4⟩ (fun hHeld => ?_)
          refine pure_ (i := 1) (N := some 53) (v := ?_) (a' := ?_) #[false, true, false, false, false, false, false, false, false, false, false, false, false, false] rfl rfl (by kernel_rfl) (fun _ _ _ h => h) (Or.inl ⟨by rfl, ?_⟩) ?_ ?_
          rotate_left
          · intro w'
            go_simp
            with_reducible rfl
          rotate_left
          · simp only [Act.put, List.setIfInBounds_toArray, List.set_cons_zero, List.set_cons_succ, i64_w, i32_w]
            rfl
          refine pure_ (i := 2) (N := some 54) (v := ?_) (a' := ?_) #[false, true, true, false, false, false, false, false, false, false, false, false, false, false] rfl rfl (by kernel_rfl) (fun _ _ _ h => h) (Or.inl ⟨by rfl, ?_⟩) ?_ ?_
          rotate_left
          · intro w'
            go_simp
            with_reducible rfl
          rotate_left
          · simp only [Act.put, List.setIfInBounds_toArray, List.set_cons_zero, List.set_cons_succ, i64_w, i32_w]
            rfl
          refine pure_ (i := 3) (N := some 55) (v := ?_) (a' := ?_) #[false, true, true, true, false, false, false, false, false, false, false, false, false, false] rfl rfl (by kernel_rfl) (fun _ _ _ h => h) (Or.inl ⟨by rfl, ?_⟩) ?_ ?_
          rotate_left
          · intro w'
            go_simp
            with_reducible rfl
          rotate_left
          · simp only [Act.put, List.setIfInBounds_toArray, List.set_cons_zero, List.set_cons_succ, i64_w, i32_w]
            rfl
          refine pure_ (i := 4) (N := some 56) (v := ?_) (a' := ?_) #[false, true, true, true, true, false, false, false, false, false, false, false, false, false] rfl rfl (by kernel_rfl) (fun _ _ _ h => h) (Or.inl ⟨by rfl, ?_⟩) ?_ ?_
          rotate_left
          · intro w'
            go_simp
            with_reducible rfl
          rotate_left
          · simp only [Act.put, List.setIfInBounds_toArray, List.set_cons_zero, List.set_cons_succ, i64_w, i32_w]
            rfl
          refine pure_ (i := 5) (N := some 57) (v := ?_) (a' := ?_) #[false, true, true, true, true, true, false, false, false, false, false, false, false, false] rfl rfl (by kernel_rfl) (fun _ _ _ h => h) (Or.inl ⟨by rfl, ?_⟩) ?_ ?_
          rotate_left
          · intro w'
            go_simp
            with_reducible rfl
          rotate_left
          · simp only [Act.put, List.setIfInBounds_toArray, List.set_cons_zero, List.set_cons_succ, i64_w, i32_w]
            rfl
          refine pure_ (i := 6) (N := some 58) (v := ?_) (a' := ?_) #[false, true, true, true, true, true, true, false, false, false, false, false, false, false] rfl rfl (by kernel_rfl) (fun _ _ _ h => h) (Or.inl ⟨by rfl, ?_⟩) ?_ ?_
          rotate_left
          · intro w'
            go_simp
            with_reducible rfl
          rotate_left
          · simp only [Act.put, List.setIfInBounds_toArray, List.set_cons_zero, List.set_cons_succ, i64_w, i32_w]
            rfl
          refine take_ (i := 0) (N := some 52) (v := ?_) (a' := ?_) #[true, true, true, true, true, true, true, false, false, false, false, false, false, false] rfl rfl (by kernel_rfl) (fun _ _ _ h => h) (Or.inl ⟨by rfl, ?_⟩) hHeld ?_ ?_
          rotate_left
          · rintro w' ⟨s0, s1, s2, s3, s4, s5, s6⟩
            go_simp
            with_reducible rfl
          rotate_left
          · simp only [Act.put, List.setIfInBounds_toArray, List.set_cons_zero, List.set_cons_succ, i64_w, i32_w]
            rfl
          refine take_ (i := 7) (N := some 59) (v := ?_) (a' := ?_) #[true, true, true, true, true, true, true, true, false, false, false, false, false, false] rfl rfl (by kernel_rfl) (fun _ _ _ h => h) (Or.inl ⟨by rfl, ?_⟩) hHeld ?_ ?_
          rotate_left
          · rintro w' ⟨s0, s1, s2, s3, s4, s5, s6⟩
            go_simp
            with_reducible rfl
          rotate_left
          · simp only [Act.put, List.setIfInBounds_toArray, List.set_cons_zero, List.set_cons_succ, i64_w, i32_w]
            rfl
          refine one_ (i := 8) (N := some 60) #[true, true, true, true, true, true, true, true, true, false, false, false, false, false] rfl rfl (by kernel_rfl) (by decide) (fun K hK => ?_)
          refine goes_ Try.func15 (by kernel_rfl) rfl #[.agg #[.slice V1 c.tables.length v1, .slice V2 c.procs.length v2], .agg #[.string t.name, .slice T1 t.params.length t1, .slice T2 t.body.length t2, .int .i64 t.rows, .int .i64 t.bytes]] (by rfl) rfl rfl (by simp only [List.map_toArray, List.map_cons, List.map_nil]; rfl) ?_
          with_reducible refine (addPrc_any c V1 v1 V2 v2 t T1 t1 T2 t2 wd.drew (Kd.C_below (Kd.R_reads' hI.out.2.2.1).2.2 HDD.out) (Kd.C_below (Kd.R_reads' hI.out.2.2.2).2.2 HDD.out) (sz_right HR.out) (Kd.C_below CTT.out.1 HWD.out) (Kd.C_below CTT.out.2 HWD.out) (ZP.out.2 t hmem).1).mono ?_
          rintro e we hco
          rw [← HRR.out] at hco
          obtain ⟨E1, E2, rfl, ⟨hE1, hE2⟩, hbe⟩ := hco
          obtain ⟨U1, u1, hu1⟩ := Kd.R_slice hE1
          obtain ⟨U2, u2, hu2⟩ := Kd.R_slice hE2
          subst hu1 hu2
          refine ⟨_, rfl, ?_⟩
          have hG9 := blk_below (blk_below B9.out (below_drew (Below.refl wd.heap.size wd))) hbe
          refine hK.out _ _ ⟨pw_cell_below hbe f0, pw_cell_below hbe f1, pw_cell_below hbe q0, pw_cell_below hbe q1, pw_cell_below hbe q2, pw_cell_below hbe q3, pw_cell_below hbe q4⟩ (fun hHeld => ?_)
          clear hK K
          refine norm_ (a' := ?_) ?_ ?_
          rotate_left
          · show Act.put _ (some 60) _ = _
            simp only [Act.put, List.setIfInBounds_toArray, List.set_cons_zero, List.set_cons_succ, i64_w, i32_w]
            rfl
          refine pure_ (i := 9) (N := some 51) (v := ?_) (a' := ?_) #[true, true, true, true, true, true, true, true, true, true, false, false, false, false] rfl rfl (by kernel_rfl) (fun _ _ _ h => h) (Or.inl ⟨by rfl, ?_⟩) ?_ ?_
          rotate_left
          · intro w'
            go_simp
            with_reducible rfl
          rotate_left
          · simp only [Act.put, List.setIfInBounds_toArray, List.set_cons_zero, List.set_cons_succ, i64_w, i32_w]
            rfl
          refine pure_ (i := 10) (N := some 61) (v := ?_) (a' := ?_) #[true, true, true, true, true, true, true, true, true, true, true, false, false, false] rfl rfl (by kernel_rfl) (fun _ _ _ h => h) (Or.inl ⟨by rfl, ?_⟩) ?_ ?_
          rotate_left
          · intro w'
            go_simp
            with_reducible rfl
          rotate_left
          · simp only [Act.put, List.setIfInBounds_toArray, List.set_cons_zero, List.set_cons_succ, i64_w, i32_w]
            rfl
          refine pure_ (i := 11) (N := some 62) (v := ?_) (a' := ?_) #[true, true, true, true, true, true, true, true, true, true, true, true, false, false] rfl rfl (by kernel_rfl) (fun _ _ _ h => h) (Or.inl ⟨by rfl, ?_⟩) ?_ ?_
          rotate_left
          · intro w'
            go_simp
            with_reducible rfl
          rotate_left
          · simp only [Act.put, List.setIfInBounds_toArray, List.set_cons_zero, List.set_cons_succ, i64_w, i32_w]
            rfl
          refine last_ (i := 12) (N := none) #[true, true, true, true, true, true, true, true, true, true, true, true, true, false] rfl rfl (by kernel_rfl) (by decide) (fun K hK => ?_)
          have y1 := blk_cell hG9 0
          have y2 := blk_frozen hG9 0
          have y3 := blk_cell hG9 1
          have y4 := blk_frozen hG9 1
          refine skip_ (w1 := ?_) (by rfl) rfl ?_ ?_
          rotate_left
          · go_simp
            rfl
          refine hK.out _ _ ?_
          clear hK K
          refine pure_ (i := 13) (N := some 10) (v := ?_) (a' := ?_) #[true, true, true, true, true, true, true, true, true, true, true, true, true, true] rfl rfl (by kernel_rfl) (fun _ _ _ h => h) (Or.inl ⟨by rfl, ?_⟩) ?_ ?_
          rotate_left
          · intro w'
            go_simp
            with_reducible rfl
          rotate_left
          · simp only [Act.put, List.setIfInBounds_toArray, List.set_cons_zero, List.set_cons_succ, i64_w, i32_w]
            rfl
          refine done_ (by kernel_rfl) ?_
          dsimp only at hE1 hE2
          have hmf := (mod_setCell we g9 0 (.slice U1 cd.tables.length u1)).trans (mod_setCell _ g9 1 (.slice U2 cd.procs.length u2))
          have hG9f := blk_put (cs' := #[.slice U1 cd.tables.length u1, .slice U2 cd.procs.length u2]) (blk_put (cs' := #[.slice U1 cd.tables.length u1, .slice none 0 0]) hG9 0 (.slice U1 cd.tables.length u1) rfl) 1 (.slice U2 cd.procs.length u2) rfl
          obtain ⟨wf, hwf⟩ : ∃ u, u = (we.setCell ⟨g9, 0, none⟩ (.slice U1 cd.tables.length u1)).setCell ⟨g9, 1, none⟩ (.slice U2 cd.procs.length u2) := ⟨_, rfl⟩
          rw [← hwf] at hmf hG9f ⊢
          have hg9 : g9 = wr.heap.size := by have := HG9.out; exact this
          have hcw := below_then HDD.out HDD.out.size hbe
          have HF := Aside0.mk (show Below wr.heap.size wr wf by rw [hwf]; exact (hcw.setCell (by show wr.heap.size ≤ g9; omega) _).setCell (by show wr.heap.size ≤ g9; omega) _)
          have hdl : wr.heap.size < wd.heap.size := by have := blk_lt B9.out; omega
          have RE1 := Aside0.mk (R_up (N := wd.heap.size) (Kd.R_mono (ok' := fun q => wd.heap.size ≤ q) (Kd.R_bound hE1) (fun q hq => hq.2.1)) (fun q h => h) hmf (fun i hi => by omega))
          have RE2 := Aside0.mk (R_up (N := wd.heap.size) (Kd.R_mono (ok' := fun q => wd.heap.size ≤ q) (Kd.R_bound hE2) (fun q hq => hq.2.1)) (fun q h => h) hmf (fun i hi => by omega))
          have G9 := Aside0.mk hG9f
          clear hcw hG9f hmf hE1 hE2 hwf hbe hG9 y1 y2 y3 y4 f0 f1 q0 q1 q2 q3 q4 hHeld HDD HWD B9 G7 hg9
          have BWf := Aside0.mk (below_then hI.out.1 hI.out.1.size HF.out)
          have G7f := Aside0.mk (blk_below hI.out.2.1 HF.out)
          by_cases hec : ec = 0
          · subst hec
            obtain ⟨hok1, hok2, hok3⟩ := addPrc_ok (c := c) (t := t) (by rw [← HRR.out])
            rw [← HRR.out] at hok1
            have hcdt : cd.procs = c.procs ++ [t] := by injection hok1 with _ h; rw [h]
            have hcdp : cd.tables = c.tables := by injection hok1 with _ h; rw [h]
            have hcdr : RightCat cd := by injection hok1 with _ h; rw [h]; exact hok2
            have HCD := Lib.hid (And.intro hcdr (And.intro hcdt (And.intro hcdp hok3)))
            clear hok1 hok2 hok3 hcdt hcdp hcdr HRR
            have CE1 := Aside0.mk (Kd.R_reads' RE1.out).2.2
            have CE2 := Aside0.mk (Kd.R_reads' RE2.out).2.2
            have x0 : wf.cell? ⟨g9, 0, none⟩ = some (.slice U1 cd.tables.length u1) := blk_cell G9.out 0
            have x1 : wf.cell? ⟨g9, 1, none⟩ = some (.slice U2 cd.procs.length u2) := blk_cell G9.out 1
            clear RE1 RE2
            go_wp2_with fail
            clear x0 x1
            refine (right_any cd U1 u1 U2 u2 wf CE1.out CE2.out).mono ?_
            intro e wg hq
            rw [decide_eq_true HCD.out.1] at hq
            obtain ⟨rfl, hbg⟩ := hq
            have BG := Aside0.mk hbg
            clear hbg
            have x0 : wg.cell? ⟨g9, 0, none⟩ = some (.slice U1 cd.tables.length u1) := blk_cell (blk_below G9.out BG.out) 0
            have x1 : wg.cell? ⟨g9, 1, none⟩ = some (.slice U2 cd.procs.length u2) := blk_cell (blk_below G9.out BG.out) 1
            go_wp2_with fail
            clear x0 x1
            have hcs := enc_cases cd
            obtain ⟨⟨es, ee⟩, hes⟩ : ∃ r, r = encO cd := ⟨_, rfl⟩
            rw [← hes] at hcs
            dsimp only at hcs
            rcases hcs with ⟨_, rfl, hcb, hcl⟩ | ⟨hno, _⟩
            case inr => exact absurd HCD.out.1 hno
            have HES := Aside0.mk hes
            have HCB := Lib.hid hcb
            clear hes hcb
            refine (encode_any cd U1 u1 U2 u2 wg (Kd.C_below CE1.out BG.out) (Kd.C_below CE2.out BG.out)).mono ?_
            intro e wh hq
            rw [← HES.out] at hq
            dsimp only at hq
            obtain ⟨rfl, hbh⟩ := hq
            have BH := Aside0.mk (below_then BG.out BG.out.size hbh)
            clear hbh BG
            go_wp2_with fail
            refine (decode_any es wh (by omega)).mono ?_
            rintro e wi ⟨r, hr, hco⟩
            obtain rfl := hr.1 cd HCD.out.1 HCB.out
            obtain ⟨E1, E2, rfl, ⟨hE1, hE2⟩, hbi⟩ := hco
            dsimp only at hE1 hE2
            obtain ⟨N1, n1, hn1⟩ := Kd.R_slice hE1
            obtain ⟨N2, n2, hn2⟩ := Kd.R_slice hE2
            subst hn1 hn2
            obtain ⟨wj, hwj, bj, sj, hbj⟩ := grow (W := wi) rfl #[.slice N1 cd.tables.length n1, .slice N2 cd.procs.length n2] 25
            obtain ⟨g14, hg14⟩ : ∃ g, g = wi.heap.size := ⟨_, rfl⟩
            rw [← hg14] at bj
            have hbfj := below_then BH.out BH.out.size (below_then hbi hbi.size hbj)
            have hG7j := blk_below G7f.out hbfj
            have hlen : ((cd.tables.length : Int) + (cd.procs.length : Int) != (c.tables.length : Int) + (c.procs.length : Int) + 1) = false := int_bne_false (by rw [HCD.out.2.2.1, HCD.out.2.1, List.length_append, List.length_singleton]; omega)
            have hwl : W.heap.size ≤ wh.heap.size := by have h1 := BWf.out.size; have h2 := BH.out.size; omega
            have hg7l : g7 < wh.heap.size := by have h1 := blk_lt G7f.out; have h2 := BH.out.size; omega
            have RN1 := Aside0.mk (Kd.R_below hE1 hbj)
            have RN2 := Aside0.mk (Kd.R_below hE2 hbj)
            have hms := (mod_setCell wj g7 0 (.slice N1 cd.tables.length n1)).trans (mod_setCell _ g7 1 (.slice N2 cd.procs.length n2))
            have hG7k := blk_put (cs' := #[.slice N1 cd.tables.length n1, .slice N2 cd.procs.length n2]) (blk_put (cs' := #[.slice N1 cd.tables.length n1, .slice V2 c.procs.length v2]) hG7j 0 (.slice N1 cd.tables.length n1) rfl) 1 (.slice N2 cd.procs.length n2) rfl
            have z0 : wj.cell? ⟨g14, 0, none⟩ = some (.slice N1 cd.tables.length n1) := blk_cell bj 0
            have z1 : wj.cell? ⟨g14, 1, none⟩ = some (.slice N2 cd.procs.length n2) := blk_cell bj 1
            have z2 : wj.cell? ⟨g7, 0, none⟩ = some (.slice V1 c.tables.length v1) := blk_cell hG7j 0
            have z3 : wj.cell? ⟨g7, 1, none⟩ = some (.slice V2 c.procs.length v2) := blk_cell hG7j 1
            have z4 : ∀ i, wj.frozen? ⟨g7, i, none⟩ = false := fun i => blk_frozen hG7j i
            have z5 : ((wj.setCell ⟨g7, 0, none⟩ (.slice N1 cd.tables.length n1)).setCell ⟨g7, 1, none⟩ (.slice N2 cd.procs.length n2)).cell? ⟨g7, 0, none⟩ = some (.slice N1 cd.tables.length n1) := blk_cell hG7k 0
            have G7k := Aside0.mk hG7k
            have HMS := Aside0.mk hms
            have HFJ := Aside0.mk hbfj
            clear hE1 hE2 hr hbi hbj bj sj hbfj hG7j hG7k hms
            rw [hwj] at z0 z1 z2 z3 z4 z5
            rw [hg14] at z0 z1
            have HWJ := Aside0.mk hwj
            have HG14 := Aside0.mk hg14
            clear hwj hg14
            have hk1' : cd.tables.length ≤ 8 := HCD.out.1.1
            have hk2' : cd.procs.length ≤ 16 := HCD.out.1.2.1
            have hk3' : c.tables.length ≤ 8 := HR.out.1
            have hk4' : c.procs.length ≤ 16 := HR.out.2.1
            have hk5' : 1 ≤ cd.procs.length := by rw [HCD.out.2.1]; simp
            go_wp2_with fail
            rw [← HWJ.out]
            obtain ⟨wk, hwk⟩ : ∃ u, u = (wj.setCell ⟨g7, 0, none⟩ (.slice N1 cd.tables.length n1)).setCell ⟨g7, 1, none⟩ (.slice N2 cd.procs.length n2) := ⟨_, rfl⟩
            have hms := HMS.out
            have hG7 := G7k.out
            rw [← hwk] at hms hG7 ⊢
            have hbk := Mod.below (below_then BWf.out BWf.out.size HFJ.out) hms (by have := BWf.out.size; have := HFJ.out.size; omega) (fun i hi => by omega)
            have g0 : wk.cell? ⟨g7, 0, none⟩ = some (.slice N1 cd.tables.length n1) := blk_cell hG7 0
            have g1 : wk.cell? ⟨g7, 1, none⟩ = some (.slice N2 cd.procs.length n2) := blk_cell hG7 1
            have q0 : wk.cell? (ad.add (m * 5)) = some (.string t.name) := pw_cell_below hbk E0.out
            have RK1 := Aside0.mk (Kd.R_lower (base' := W.heap.size) (R_up (N := wh.heap.size) (Kd.R_mono (ok' := fun q => wh.heap.size ≤ q) (Kd.R_bound RN1.out) (fun q hq => hq.2.1)) (fun q h => h) hms (fun i hi => by omega)) hwl)
            have RK2 := Aside0.mk (Kd.R_lower (base' := W.heap.size) (R_up (N := wh.heap.size) (Kd.R_mono (ok' := fun q => wh.heap.size ≤ q) (Kd.R_bound RN2.out) (fun q hq => hq.2.1)) (fun q h => h) hms (fun i hi => by omega)) hwl)
            have HBK := Aside0.mk hbk
            have G7K := Aside0.mk hG7
            have CK1 := Aside0.mk (Kd.C_below (Kd.R_reads' RK2.out).2.2 (below_drew (Below.refl wk.heap.size wk)))
            have hfv : foundV (posF (cd.procs.map (·.name)) t.name) = (.int .i64 ((cd.procs.length : Int) - 1), .int .i64 0) := by
              rw [HCD.out.2.1, List.map_append, show [t].map (·.name) = [t.name] from rfl, posF_last HCD.out.2.2.2, List.length_map, List.length_append, List.length_singleton]
              unfold foundV
              rw [if_neg (by omega), show ((c.procs.length + 1 : Nat) : Int) - 1 = (c.procs.length : Int) from by omega]
            clear hms hG7 hbk hwk z0 z1 z2 z3 z4 z5 G7k HMS HWJ HG14 RN1 RN2 HFJ
            refine start_ (n := 15) (S := fun w' => w'.cell? ⟨g7, 0, none⟩ = some (.slice N1 cd.tables.length n1) ∧ w'.cell? ⟨g7, 1, none⟩ = some (.slice N2 cd.procs.length n2) ∧ w'.cell? (ad.add (m * 5)) = some (.string t.name)) (ds := []) #[false, false, false, false, false, false, false, false, false, false, false, false, false, false, false] (by kernel_rfl) rfl rfl ⟨g0, g1, q0⟩ (fun hHeld => ?_)
            refine pure_ (i := 1) (N := some 136) (v := ?_) (a' := ?_) #[false, true, false, false, false, false, false, false, false, false, false, false, false, false, false] rfl rfl (by kernel_rfl) (fun _ _ _ h => h) (Or.inl ⟨by rfl, ?_⟩) ?_ ?_
            rotate_left
            · intro w'
              go_simp
              with_reducible rfl
            rotate_left
            · simp only [Act.put, List.setIfInBounds_toArray, List.set_cons_zero, List.set_cons_succ, i64_w, i32_w]
              rfl
            refine pure_ (i := 2) (N := some 137) (v := ?_) (a' := ?_) #[false, true, true, false, false, false, false, false, false, false, false, false, false, false, false] rfl rfl (by kernel_rfl) (fun _ _ _ h => h) (Or.inl ⟨by rfl, ?_⟩) ?_ ?_
            rotate_left
            · intro w'
              go_simp
              with_reducible rfl
            rotate_left
            · simp only [Act.put, List.setIfInBounds_toArray, List.set_cons_zero, List.set_cons_succ, i64_w, i32_w]
              rfl
            refine pure_ (i := 3) (N := some 138) (v := ?_) (a' := ?_) #[false, true, true, true, false, false, false, false, false, false, false, false, false, false, false] rfl rfl (by kernel_rfl) (fun _ _ _ h => h) (Or.inl ⟨by rfl, ?_⟩) ?_ ?_
            rotate_left
            · intro w'
              go_simp
              with_reducible rfl
            rotate_left
            · simp only [Act.put, List.setIfInBounds_toArray, List.set_cons_zero, List.set_cons_succ, i64_w, i32_w]
              rfl
            refine pure_ (i := 4) (N := some 139) (v := ?_) (a' := ?_) #[false, true, true, true, true, false, false, false, false, false, false, false, false, false, false] rfl rfl (by kernel_rfl) (fun _ _ _ h => h) (Or.inl ⟨by rfl, ?_⟩) ?_ ?_
            rotate_left
            · intro w'
              go_simp
              with_reducible rfl
            rotate_left
            · simp only [Act.put, List.setIfInBounds_toArray, List.set_cons_zero, List.set_cons_succ, i64_w, i32_w]
              rfl
            refine pure_ (i := 5) (N := some 140) (v := ?_) (a' := ?_) #[false, true, true, true, true, true, false, false, false, false, false, false, false, false, false] rfl rfl (by kernel_rfl) (fun _ _ _ h => h) (Or.inl ⟨by rfl, ?_⟩) ?_ ?_
            rotate_left
            · intro w'
              go_simp
              with_reducible rfl
            rotate_left
            · simp only [Act.put, List.setIfInBounds_toArray, List.set_cons_zero, List.set_cons_succ, i64_w, i32_w]
              rfl
            refine pure_ (i := 6) (N := some 141) (v := ?_) (a' := ?_) #[false, true, true, true, true, true, true, false, false, false, false, false, false, false, false] rfl rfl (by kernel_rfl) (fun _ _ _ h => h) (Or.inl ⟨by rfl, ?_⟩) ?_ ?_
            rotate_left
            · intro w'
              go_simp
              with_reducible rfl
            rotate_left
            · simp only [Act.put, List.setIfInBounds_toArray, List.set_cons_zero, List.set_cons_succ, i64_w, i32_w]
              rfl
            refine pure_ (i := 7) (N := some 142) (v := ?_) (a' := ?_) #[false, true, true, true, true, true, true, true, false, false, false, false, false, false, false] rfl rfl (by kernel_rfl) (fun _ _ _ h => h) (Or.inl ⟨by rfl, ?_⟩) ?_ ?_
            rotate_left
            · intro w'
              go_simp
              with_reducible rfl
            rotate_left
            · simp only [Act.put, List.setIfInBounds_toArray, List.set_cons_zero, List.set_cons_succ, i64_w, i32_w]
              rfl
            refine take_ (i := 0) (N := some 135) (v := ?_) (a' := ?_) #[true, true, true, true, true, true, true, true, false, false, false, false, false, false, false] rfl rfl (by kernel_rfl) (fun _ _ _ h => h) (Or.inl ⟨by rfl, ?_⟩) hHeld ?_ ?_
            rotate_left
            · rintro w' ⟨s0, s1, s2⟩
              go_simp
              with_reducible rfl
            rotate_left
            · simp only [Act.put, List.setIfInBounds_toArray, List.set_cons_zero, List.set_cons_succ, i64_w, i32_w]
              rfl
            refine take_ (i := 8) (N := some 143) (v := ?_) (a' := ?_) #[true, true, true, true, true, true, true, true, true, false, false, false, false, false, false] rfl rfl (by kernel_rfl) (fun _ _ _ h => h) (Or.inl ⟨by rfl, ?_⟩) hHeld ?_ ?_
            rotate_left
            · rintro w' ⟨s0, s1, s2⟩
              go_simp
              with_reducible rfl
            rotate_left
            · simp only [Act.put, List.setIfInBounds_toArray, List.set_cons_zero, List.set_cons_succ, i64_w, i32_w]
              rfl
            refine one_ (i := 9) (N := some 144) #[true, true, true, true, true, true, true, true, true, true, false, false, false, false, false] rfl rfl (by kernel_rfl) (by decide) (fun K hK => ?_)
            refine goes_ Try.func26 (by kernel_rfl) rfl #[.agg #[.slice N1 cd.tables.length n1, .slice N2 cd.procs.length n2], .string t.name] (by rfl) rfl rfl (by simp only [List.map_toArray, List.map_cons, List.map_nil]; rfl) ?_
            with_reducible refine (findProc_any N1 cd.tables.length n1 N2 cd.procs.length n2 cd.procs t.name wk.drew CK1.out).mono ?_
            rintro e wl ⟨he, hbe2⟩
            rw [hfv] at he
            subst he
            refine ⟨_, rfl, ?_⟩
            refine hK.out _ _ ⟨pw_cell_below hbe2 g0, pw_cell_below hbe2 g1, pw_cell_below hbe2 q0⟩ (fun hHeld => ?_)
            clear hK K
            refine norm_ (a' := ?_) ?_ ?_
            rotate_left
            · show Act.put _ (some 144) _ = _
              simp only [Act.put, List.setIfInBounds_toArray, List.set_cons_zero, List.set_cons_succ, i64_w, i32_w]
              rfl
            refine pure_ (i := 10) (N := some 134) (v := ?_) (a' := ?_) #[true, true, true, true, true, true, true, true, true, true, true, false, false, false, false] rfl rfl (by kernel_rfl) (fun _ _ _ h => h) (Or.inl ⟨by rfl, ?_⟩) ?_ ?_
            rotate_left
            · intro w'
              go_simp
              with_reducible rfl
            rotate_left
            · simp only [Act.put, List.setIfInBounds_toArray, List.set_cons_zero, List.set_cons_succ, i64_w, i32_w]
              rfl
            refine pure_ (i := 11) (N := some 145) (v := ?_) (a' := ?_) #[true, true, true, true, true, true, true, true, true, true, true, true, false, false, false] rfl rfl (by kernel_rfl) (fun _ _ _ h => h) (Or.inl ⟨by rfl, ?_⟩) ?_ ?_
            rotate_left
            · intro w'
              go_simp
              with_reducible rfl
            rotate_left
            · simp only [Act.put, List.setIfInBounds_toArray, List.set_cons_zero, List.set_cons_succ, i64_w, i32_w]
              rfl
            refine pure_ (i := 12) (N := some 146) (v := ?_) (a' := ?_) #[true, true, true, true, true, true, true, true, true, true, true, true, true, false, false] rfl rfl (by kernel_rfl) (fun _ _ _ h => h) (Or.inl ⟨by rfl, ?_⟩) ?_ ?_
            rotate_left
            · intro w'
              go_simp
              with_reducible rfl
            rotate_left
            · simp only [Act.put, List.setIfInBounds_toArray, List.set_cons_zero, List.set_cons_succ, i64_w, i32_w]
              rfl
            refine pure_ (i := 13) (N := some 16) (v := ?_) (a' := ?_) #[true, true, true, true, true, true, true, true, true, true, true, true, true, true, false] rfl rfl (by kernel_rfl) (fun _ _ _ h => h) (Or.inl ⟨by rfl, ?_⟩) ?_ ?_
            rotate_left
            · intro w'
              go_simp
              with_reducible rfl
            rotate_left
            · simp only [Act.put, List.setIfInBounds_toArray, List.set_cons_zero, List.set_cons_succ, i64_w, i32_w]
              rfl
            refine pure_ (i := 14) (N := some 10) (v := ?_) (a' := ?_) #[true, true, true, true, true, true, true, true, true, true, true, true, true, true, true] rfl rfl (by kernel_rfl) (fun _ _ _ h => h) (Or.inl ⟨by rfl, ?_⟩) ?_ ?_
            rotate_left
            · intro w'
              go_simp
              with_reducible rfl
            rotate_left
            · simp only [Act.put, List.setIfInBounds_toArray, List.set_cons_zero, List.set_cons_succ, i64_w, i32_w]
              rfl
            refine done_ (by kernel_rfl) ?_
            have hbl := below_then (below_drew (Below.refl wk.heap.size wk)) (Nat.le_refl _) hbe2
            have BL := Aside0.mk (below_then HBK.out HBK.out.size hbl)
            have GL := Aside0.mk (blk_below G7K.out hbl)
            have RL1 := Aside0.mk (Kd.R_below RK1.out hbl)
            have RL2 := Aside0.mk (Kd.R_below RK2.out hbl)
            clear hbl hbe2 hHeld hfv g0 g1 q0
            have g1 : wl.cell? ⟨g7, 1, none⟩ = some (.slice N2 cd.procs.length n2) := blk_cell GL.out 1
            go_wp2_with fail
            go_roundg (ts.length + ps.length - (k + 1))
            case measure => have := HGN.out; omega
            case rel => exact ⟨k + 1, cd, N1, n1, N2, n2, by go_num, ⟨by have := HGN.out; omega, HCD.out.1⟩, ⟨BL.out, GL.out, Kd.R_mono RL1.out (fun _ _ => trivial), Kd.R_mono RL2.out (fun _ _ => trivial)⟩⟩
          · have hcd : cd = ⟨[], []⟩ := by have h := addPrc_no (c := c) (t := t) (by rw [← HRR.out]; exact hec); rw [← HRR.out] at h; exact h
            subst hcd
            have p4 : (ec != 0) = true := int_bne_true hec
            have x0 : wf.cell? ⟨g9, 0, none⟩ = some (.slice U1 0 u1) := blk_cell G9.out 0
            have x1 : wf.cell? ⟨g9, 1, none⟩ = some (.slice U2 0 u2) := blk_cell G9.out 1
            have RC1 := Aside0.mk (Kd.R_below hI.out.2.2.1 HF.out)
            have RC2 := Aside0.mk (Kd.R_below hI.out.2.2.2 HF.out)
            clear RE1 RE2 HRR
            go_wp2_with fail
            go_roundg (ts.length + ps.length - (k + 1))
            case measure => have := HGN.out; omega
            case rel => exact ⟨k + 1, c, V1, v1, V2, v2, by go_num, ⟨by have := HGN.out; omega, HR.out⟩, ⟨BWf.out, G7f.out, RC1.out, RC2.out⟩⟩
      · have hend := hI.out.1
        by_cases hk1 : k < ts.length + ps.length
        · have hk2 : ¬ k < 64 := fun h => hk ⟨hk1, h⟩
          have p0 : (k : Int) < (ts.length : Int) + (ps.length : Int) := by omega
          have p1 : ¬ (k : Int) < 64 := by omega
          go_wp2_with fail
          go_ret
          exact ⟨rfl, hend⟩
        · have p0 : ¬ (k : Int) < (ts.length : Int) + (ps.length : Int) := by omega
          go_wp2_with fail
          go_ret
          exact ⟨rfl, hend⟩
end Go.Proofs.Ytcmgdieeclninaa

