/- Layer 8: the walk of Decode. -/
import Derived.Test.YtcmgdieeclninaaD44
set_option linter.unusedVariables false
set_option linter.unusedSimpArgs false
namespace Go.Proofs.Ytcmgdieeclninaa
open Go.RowKit Go.Proofs.YtcmgdieeclninaaW.PrintWords
/-- C5: what a decoder must tell. -/
def DecRel (s : ByteArray) (r : Int × Cat) : Prop := (∀ c, RightCat c → bytesOf s = wCat c → r = (0, c)) ∧ ((∀ c, RightCat c → bytesOf s ≠ wCat c) → r = (80, ⟨[], []⟩))
theorem DecRel.unique {s : ByteArray} {r r' : Int × Cat} (h : DecRel s r) (h' : DecRel s r') : r = r' := by
  by_cases hc : ∃ c, RightCat c ∧ bytesOf s = wCat c
  · obtain ⟨c, h1, h2⟩ := hc
    rw [h.1 c h1 h2, h'.1 c h1 h2]
  · have hn : ∀ c, RightCat c → bytesOf s ≠ wCat c := fun c h1 h2 => hc ⟨c, h1, h2⟩
    rw [h.2 hn, h'.2 hn]
theorem okT_name {s : ByteArray} (h : NameOk s) : okT s := by unfold okT; have := h.2.1; omega
theorem okL_places {l : List Int} {m : Int} (h : PlacesOk l m) (hm : m ≤ 16) : okL l := ⟨h.2.1, fun n hn => by have := h.2.2.1 n hn; unfold okZ; omega⟩
theorem okZ_type {n : Int} (h : TypeOk n) : okZ n := by unfold TypeOk at h; unfold okZ; omega
theorem okTab_of {t : Tab} (h : MayTab t) : okTab t := by
  have h16 := h.2.2.1
  have hk := okL_places h.2.2.2.2.2.2.1 (by omega)
  exact ⟨okT_name h.1, ⟨h16, fun c hc => ⟨okT_name (h.2.2.2.2.1.1 _ (List.mem_map_of_mem (f := (·.name)) hc)), okZ_type (h.2.2.2.2.2.1 c hc)⟩⟩, hk, hk.2 _ h.2.2.2.2.2.2.2.2.1, h.2.2.2.1, fun x hx => ⟨okT_name (h.2.2.2.2.2.2.2.2.2.2.1 _ (List.mem_map_of_mem (f := (·.name)) hx)), okL_places (h.2.2.2.2.2.2.2.2.2.1 x hx) (by omega)⟩⟩
theorem okPrc_of {p : Prc} (h : MayPrc p) : okPrc p :=
  ⟨okT_name h.1, ⟨h.2.2.2.1, fun c hc => ⟨okT_name (h.2.2.2.2.2.2.1.1 _ (List.mem_map_of_mem (f := (·.name)) hc)), okZ_type (h.2.2.2.2.2.2.2.1 c hc)⟩⟩, ⟨h.2.2.2.2.2.1, fun s hs => by unfold okT; have := (h.2.2.2.2.2.2.2.2 s hs).2; omega⟩, by unfold okZ; have := h.2.1; omega, by unfold okZ; have := h.2.2.1; omega⟩
theorem okCat_of {c : Cat} (h : RightCat c) : okCat c := ⟨⟨h.1, fun t ht => okTab_of (h.2.2.1 t ht)⟩, h.2.1, fun p hp => okPrc_of (h.2.2.2.1 p hp)⟩
/-- A strict reading of all the bytes decodes. -/
theorem decRel_of {s s' : ByteArray} {c : Cat} {b' : Bool} (h : Rd wCat okCat (bytesOf s) false c (bytesOf s') b') : (b' = false ∧ s'.size = 0 ∧ RightCat c → DecRel s (0, c)) ∧ (¬ (b' = false ∧ s'.size = 0 ∧ RightCat c) → DecRel s (80, ⟨[], []⟩)) := by
  constructor
  · rintro ⟨hb, hs, hR⟩
    obtain ⟨_, h2⟩ := h.sound hb
    have he : bytesOf s' = [] := List.eq_nil_of_length_eq_zero (by rw [bytesOf_length]; exact hs)
    rw [he, List.append_nil] at h2
    refine ⟨fun c' hc' hl => ?_, fun hn => absurd h2 (hn c hR)⟩
    obtain ⟨h3, _, _⟩ := h.compl rfl c' [] (okCat_of hc') (by rw [hl, List.append_nil])
    rw [h3]
  · intro hn
    refine ⟨fun c' hc' hl => ?_, fun _ => rfl⟩
    obtain ⟨h3, h4, h5⟩ := h.compl rfl c' [] (okCat_of hc') (by rw [hl, List.append_nil])
    exfalso
    refine hn ⟨h5, ?_, h3 ▸ hc'⟩
    have := congrArg List.length h4
    rw [bytesOf_length] at this
    exact this
set_option maxRecDepth 100000 in
set_option maxHeartbeats 8000000 in
theorem decode_any (s : ByteArray) (w : World) (hs : s.size ≤ 140737488355328) : Calls Try.prog 24 #[.string s] w (fun e w' => ∃ r, DecRel s r ∧ CatOut r w e w') := by
  obtain ⟨wR, hwR⟩ : ∃ u, u = (w.alloc (Obj.cells #[.slice none 0 0, .slice none 0 0] 25)).alloc (Obj.cells #[.string s, .bool false] 81) := ⟨_, rfl⟩
  have hsz1 : (w.alloc (Obj.cells #[.slice none 0 0, .slice none 0 0] 25)).heap.size = w.heap.size + 1 := by simp
  have hsR : wR.heap.size = w.heap.size + 2 := by rw [hwR]; simp
  have hbR : Below w.heap.size w wR := by rw [hwR]; exact below_alloc (below_alloc (Below.refl _ _) _) _
  have hrs : RS wR (w.heap.size + 1) s false := by
    have h := blk_alloc (w.alloc (Obj.cells #[.slice none 0 0, .slice none 0 0] 25)) (Obj.cells #[.string s, .bool false] 81)
    rw [hsz1, ← hwR] at h
    exact h
  have hg0 : wR.heap[w.heap.size]? = some (Obj.cells #[.slice none 0 0, .slice none 0 0] 25 (0, 0)) := by rw [hwR]; exact blk_alloc' (blk_alloc _ _)
  have hJ := ((TJ.start hrs).alloc #[.pointer (some ⟨w.heap.size + 1, 0, none⟩)] 79).alloc #[.slice none 0 0, .slice none 0 0] 25
  have hsz3 : (wR.alloc (Obj.cells #[.pointer (some ⟨w.heap.size + 1, 0, none⟩)] 79)).heap.size = w.heap.size + 3 := by simp [hsR]
  rw [hsz3, hsR] at hJ
  obtain ⟨W, hW⟩ : ∃ u, u = (wR.alloc (Obj.cells #[.pointer (some ⟨w.heap.size + 1, 0, none⟩)] 79)).alloc (Obj.cells #[.slice none 0 0, .slice none 0 0] 25) := ⟨_, rfl⟩
  have hWs : W.heap.size = w.heap.size + 4 := by rw [hW]; simp [hsR]
  rw [← hW] at hJ
  have f0 := blk_cell hJ.at2 0
  rw [hW, hwR] at f0
  rw [hwR] at hW
  have HJ := Aside0.mk hJ
  have HW := Aside0.mk hW.symm
  have HG0 := Aside0.mk hg0
  have HBR := Aside0.mk hbR
  clear hJ hW hg0 hbR hrs hsz1 hsz3 hwR
  go_enter Try.func24, Try.ntmps24
  go_wp2_with fail
  rw [HW.out]
  obtain ⟨tb, htb⟩ : ∃ t, t = w.heap.size + 1 + 1 + 1 := ⟨_, rfl⟩
  obtain ⟨qb, hqb⟩ : ∃ t, t = w.heap.size + 1 + 1 := ⟨_, rfl⟩
  obtain ⟨rb, hrb⟩ : ∃ t, t = w.heap.size + 1 := ⟨_, rfl⟩
  rw [← htb, ← hqb, ← hrb]
  have HJ1 : Aside0 (TJ wR W rb s false [(tb, #[.slice none 0 0, .slice none 0 0], 25), (qb, #[.pointer (some ⟨rb, 0, none⟩)], 79)]) := by rw [htb, hqb, hrb]; exact HJ
  have hlts : rb < W.heap.size ∧ tb < W.heap.size ∧ qb < W.heap.size ∧ rb ≠ tb ∧ rb ≠ qb ∧ tb ≠ qb := by omega
  have hgs : w.heap.size < rb ∧ w.heap.size < qb ∧ w.heap.size < tb ∧ qb ≠ tb := by omega
  have HRB := Lib.hid hrb
  clear HJ HW f0 htb hqb hrb
  refine (many49_any 8 (by decide) #[.pointer (some ⟨tb, 0, none⟩), .pointer (some ⟨qb, 0, none⟩)] rb s false W HJ1.out.rs hs (MI kTab 30 wTab okTab rb tb qb 25 (fun v => #[v, .slice none 0 0]) W)
    (MI.start hs HJ1.out.hd HJ1.out.at2 hlts) (fun l0 b0 k w1 s1 hk hI hR => cl49_any rb _ _ W l0 b0 k w1 s1 hk hI hR)).mono ?_
  intro e w2 hm
  obtain ⟨rfl, v1, tabs, s2, b2, hC, hs2, hrd2⟩ := MI.many (by decide) hm
  have hJ2 := HJ1.out.turn hC.rs hC.md hC.tbx (fun p hp => by simp at hp; subst hp; exact hgs.2.2.2)
  obtain ⟨V1, c1, hv1⟩ := Kd.R_slice hC.row
  subst hv1
  have HJ2 := Aside0.mk hJ2
  have HR1 := Aside0.mk hC.row
  have RD2 := Lib.hid hrd2
  have f2 : w2.cell? ⟨qb, 0, none⟩ = some (.pointer (some ⟨rb, 0, none⟩)) := blk_cell hJ2.at2 0
  have hw2 : W.heap.size ≤ w2.heap.size := hC.md.size
  clear hm hC hrd2 hJ2 HJ1
  go_wp2_with fail
  refine (many51_any 16 (by decide) #[.pointer (some ⟨tb, 0, none⟩), .pointer (some ⟨qb, 0, none⟩)] rb s2 b2 w2 HJ2.out.rs hs2 (MI kPrc 34 wPrc okPrc rb tb qb 25 (fun v => #[.slice V1 tabs.length c1, v]) w2)
    (MI.start hs2 HJ2.out.hd HJ2.out.at2 (by omega)) (fun l0 b0 k w1 s1 hk hI hR => cl51_any rb _ _ _ w2 l0 b0 k w1 s1 hk hI hR)).mono ?_
  intro e w3 hm
  obtain ⟨rfl, v2, prcs, s3, b3, hC, hs3, hrd3⟩ := MI.many (by decide) hm
  have hJ3 := HJ2.out.turn hC.rs hC.md hC.tbx (fun p hp => by simp at hp; subst hp; exact hgs.2.2.2)
  obtain ⟨V2, c2, hv2⟩ := Kd.R_slice hC.row
  subst hv2
  have HJ3 := Aside0.mk hJ3
  have HR1b := Aside0.mk (R_up (N := W.heap.size) HR1.out (fun q h => h) hC.md (fun i hi => by omega))
  have HR2 := Aside0.mk hC.row
  have hrd := (RD2.out.pair hrd3).map (w' := wCat) (ok' := okCat) (fun p => (⟨p.1, p.2⟩ : Cat)) (fun c => (c.tables, c.procs)) rfl (fun _ => rfl) (fun y hy => hy) (fun _ _ => rfl)
  have HD := Lib.hid (decRel_of hrd)
  have f2 : w3.cell? ⟨qb, 0, none⟩ = some (.pointer (some ⟨rb, 0, none⟩)) := blk_cell hJ3.at2 0
  have f3 : w3.cell? ⟨rb, 1, none⟩ = some (.bool b3) := blk_cell hJ3.rs 1
  have f4 : w3.cell? ⟨rb, 0, none⟩ = some (.string s3) := blk_cell hJ3.rs 0
  have HG3 := Aside0.mk (blk_mod HG0.out hJ3.md (by omega))
  have HBW3 := Aside0.mk (Mod.below HBR.out hJ3.md HBR.out.size (fun i hi => by omega))
  clear hm hC hrd3 hJ3 HJ2 HR1 hrd RD2 HG0 HBR
  cases b3 with
  | true =>
    have HG4 := HG3
    have HBW := HBW3
    have z0 : w3.cell? ⟨w.heap.size, 0, none⟩ = some (.slice none 0 0) := blk_cell HG4.out 0
    have z1 : w3.cell? ⟨w.heap.size, 1, none⟩ = some (.slice none 0 0) := blk_cell HG4.out 1
    have k0 : ∀ i, w3.frozen? ⟨w.heap.size, i, none⟩ = false := fun i => blk_frozen HG4.out i
    go_wp2_with fail
    have hm := (mod_setCell w3 w.heap.size 0 (.slice none 0 0)).trans (mod_setCell _ _ 1 (.slice none 0 0))
    have hE := blk_put (cs' := #[.slice none 0 0, .slice none 0 0]) (blk_put (cs' := #[.slice none 0 0, .slice none 0 0]) HG4.out 0 (.slice none 0 0) rfl) 1 (.slice none 0 0) rfl
    refine bodyPost_ret (results_row_tmp rfl _ _ w.heap.size 25 #[.slice none 0 0, .slice none 0 0] (0, 0) _ rfl hE Try.underlying25 rfl (by kernel_rfl)) rfl ?_
    exact ⟨(80, ⟨[], []⟩), HD.out.2 (by simp), _, _, rfl, ⟨Kd.R_nil _ _ _ _ _, Kd.R_nil _ _ _ _ _⟩, Mod.below HBW.out hm HBW.out.size (fun i hi => by omega)⟩
  | false =>
    by_cases hz : s3.size = 0
    · have he := str_nil_true hz
      have HZ := Lib.hid hz
      have x0 : w3.cell? ⟨tb, 0, none⟩ = some (.slice V1 tabs.length c1) := blk_cell HJ3.out.hd 0
      have x1 : w3.cell? ⟨tb, 1, none⟩ = some (.slice V2 prcs.length c2) := blk_cell HJ3.out.hd 1
      clear hz
      go_wp2_with fail
      refine (right_any ⟨tabs, prcs⟩ V1 c1 V2 c2 w3 (Kd.R_reads' HR1b.out).2.2 (Kd.R_reads' HR2.out).2.2).mono ?_
      rintro e w4 ⟨rfl, hb4⟩
      have HG4 := Aside0.mk (blk_below HG3.out hb4)
      have HBW := Aside0.mk (below_then HBW3.out HBW3.out.size hb4)
      by_cases hR : RightCat ⟨tabs, prcs⟩
      · rw [decide_eq_true hR]
        have HR := Lib.hid hR
        have HJ4 := Aside0.mk (HJ3.out.below hb4)
        have x0 : w4.cell? ⟨tb, 0, none⟩ = some (.slice V1 tabs.length c1) := blk_cell HJ4.out.hd 0
        have x1 : w4.cell? ⟨tb, 1, none⟩ = some (.slice V2 prcs.length c2) := blk_cell HJ4.out.hd 1
        have z0 : w4.cell? ⟨w.heap.size, 0, none⟩ = some (.slice none 0 0) := blk_cell HG4.out 0
        have z1 : w4.cell? ⟨w.heap.size, 1, none⟩ = some (.slice none 0 0) := blk_cell HG4.out 1
        have k0 : ∀ i, w4.frozen? ⟨w.heap.size, i, none⟩ = false := fun i => blk_frozen HG4.out i
        have HR1c := Aside0.mk (Kd.R_below HR1b.out hb4)
        have HR2c := Aside0.mk (Kd.R_below HR2.out hb4)
        clear hb4 hR
        go_wp2_with fail
        have hm := (mod_setCell w4 w.heap.size 0 (.slice V1 tabs.length c1)).trans (mod_setCell _ _ 1 (.slice V2 prcs.length c2))
        have hE := blk_put (cs' := #[.slice V1 tabs.length c1, .slice V2 prcs.length c2]) (blk_put (cs' := #[.slice V1 tabs.length c1, .slice none 0 0]) HG4.out 0 (.slice V1 tabs.length c1) rfl) 1 (.slice V2 prcs.length c2) rfl
        refine bodyPost_ret (results_row_tmp rfl _ _ w.heap.size 25 #[.slice V1 tabs.length c1, .slice V2 prcs.length c2] (0, 0) _ rfl hE Try.underlying25 rfl (by kernel_rfl)) rfl ?_
        refine ⟨(0, ⟨tabs, prcs⟩), HD.out.1 (by first | exact ⟨rfl, HZ.out, HR.out⟩ | exact ⟨trivial, HZ.out, HR.out⟩), _, _, rfl, ⟨?_, ?_⟩, Mod.below HBW.out hm HBW.out.size (fun i hi => by omega)⟩
        · exact Kd.R_mono (Kd.R_lower (R_up (N := W.heap.size) HR1c.out (fun q h => h) hm (fun i hi => by omega)) (by omega)) (fun _ _ => trivial)
        · exact Kd.R_mono (Kd.R_lower (R_up (N := W.heap.size) HR2c.out (fun q h => Nat.le_trans hw2 h) hm (fun i hi => by omega)) (by omega)) (fun _ _ => trivial)
      · rw [decide_eq_false hR]
        have HR := Lib.hid hR
        clear hb4 hR
        have z0 : w4.cell? ⟨w.heap.size, 0, none⟩ = some (.slice none 0 0) := blk_cell HG4.out 0
        have z1 : w4.cell? ⟨w.heap.size, 1, none⟩ = some (.slice none 0 0) := blk_cell HG4.out 1
        have k0 : ∀ i, w4.frozen? ⟨w.heap.size, i, none⟩ = false := fun i => blk_frozen HG4.out i
        go_wp2_with fail
        have hm := (mod_setCell w4 w.heap.size 0 (.slice none 0 0)).trans (mod_setCell _ _ 1 (.slice none 0 0))
        have hE := blk_put (cs' := #[.slice none 0 0, .slice none 0 0]) (blk_put (cs' := #[.slice none 0 0, .slice none 0 0]) HG4.out 0 (.slice none 0 0) rfl) 1 (.slice none 0 0) rfl
        refine bodyPost_ret (results_row_tmp rfl _ _ w.heap.size 25 #[.slice none 0 0, .slice none 0 0] (0, 0) _ rfl hE Try.underlying25 rfl (by kernel_rfl)) rfl ?_
        exact ⟨(80, ⟨[], []⟩), HD.out.2 (fun h => HR.out h.2.2), _, _, rfl, ⟨Kd.R_nil _ _ _ _ _, Kd.R_nil _ _ _ _ _⟩, Mod.below HBW.out hm HBW.out.size (fun i hi => by omega)⟩
    · have he := str_nil_false (by omega : 0 < s3.size)
      have HZ := Lib.hid hz
      have HG4 := HG3
      have HBW := HBW3
      clear hz
      have z0 : w3.cell? ⟨w.heap.size, 0, none⟩ = some (.slice none 0 0) := blk_cell HG4.out 0
      have z1 : w3.cell? ⟨w.heap.size, 1, none⟩ = some (.slice none 0 0) := blk_cell HG4.out 1
      have k0 : ∀ i, w3.frozen? ⟨w.heap.size, i, none⟩ = false := fun i => blk_frozen HG4.out i
      go_wp2_with fail
      have hm := (mod_setCell w3 w.heap.size 0 (.slice none 0 0)).trans (mod_setCell _ _ 1 (.slice none 0 0))
      have hE := blk_put (cs' := #[.slice none 0 0, .slice none 0 0]) (blk_put (cs' := #[.slice none 0 0, .slice none 0 0]) HG4.out 0 (.slice none 0 0) rfl) 1 (.slice none 0 0) rfl
      refine bodyPost_ret (results_row_tmp rfl _ _ w.heap.size 25 #[.slice none 0 0, .slice none 0 0] (0, 0) _ rfl hE Try.underlying25 rfl (by kernel_rfl)) rfl ?_
      exact ⟨(80, ⟨[], []⟩), HD.out.2 (fun h => HZ.out h.2.1), _, _, rfl, ⟨Kd.R_nil _ _ _ _ _, Kd.R_nil _ _ _ _ _⟩, Mod.below HBW.out hm HBW.out.size (fun i hi => by omega)⟩
end Go.Proofs.Ytcmgdieeclninaa
