/- Layer 23, plain: messages, what a network does, and the kinds of their cells. -/
import Derived.Test.YtlnneaccgfakeaaK1
set_option linter.unusedVariables false
set_option linter.unusedSimpArgs false
namespace Go.Proofs.Ytlnneaccgfakeaa
open Go.RowKit Go.Proofs.YtlnneaccgfakeaaW.PrintWords Go.Proofs.YtlnneaccgfakeaaW.PrintLast
structure Msg where
  src : Int
  dst : Int
  kind : Int
  pos : Int
  body : List ByteArray
instance : Inhabited Msg := ⟨⟨0, 0, 0, 0, []⟩⟩
instance : DecidableEq Msg := fun a b =>
  if h : a.src = b.src ∧ a.dst = b.dst ∧ a.kind = b.kind ∧ a.pos = b.pos ∧ a.body = b.body then .isTrue (by cases a; cases b; simp_all) else .isFalse (by rintro rfl; exact h ⟨rfl, rfl, rfl, rfl, rfl⟩)
theorem Msg.ext' {a b : Msg} (h : a.src = b.src ∧ a.dst = b.dst ∧ a.kind = b.kind ∧ a.pos = b.pos ∧ a.body = b.body) : a = b := by cases a; cases b; simp_all
def kMsg : Kd Msg := Kd.iso (Kd.pair (Kd.int .i64) (Kd.pair (Kd.int .i64) (Kd.pair (Kd.int .i64) (Kd.pair (Kd.int .i64) (Kd.slice 9 Kd.string))))) (fun m => (m.src, m.dst, m.kind, m.pos, m.body))
theorem kMsg_K {w : World} {x : Msg} {cs : List Value} : kMsg.K w x cs ↔ ∃ A c, cs = [.int .i64 x.src, .int .i64 x.dst, .int .i64 x.kind, .int .i64 x.pos, .slice A x.body.length c] ∧ x.body.length ≤ c ∧ Kd.string.C w A x.body.length x.body := by
  constructor
  · rintro ⟨_, _, rfl, rfl, _, _, rfl, rfl, _, _, rfl, rfl, _, _, rfl, rfl, A, c, rfl, hl, hC⟩
    exact ⟨A, c, rfl, hl, hC⟩
  · rintro ⟨A, c, rfl, hl, hC⟩
    exact ⟨[_], [_, _, _, _], rfl, rfl, [_], [_, _, _], rfl, rfl, [_], [_, _], rfl, rfl, [_], [_], rfl, rfl, A, c, rfl, hl, hC⟩
theorem kMsg_M {w : World} {base : Nat} {ok : Nat → Prop} {x : Msg} {cs : List Value} : kMsg.M w base ok x cs ↔ ∃ v, cs = [.int .i64 x.src, .int .i64 x.dst, .int .i64 x.kind, .int .i64 x.pos, v] ∧ Kd.string.R 9 w base ok v x.body := by
  constructor
  · rintro ⟨_, _, rfl, rfl, _, _, rfl, rfl, _, _, rfl, rfl, _, _, rfl, rfl, v, rfl, hR⟩
    exact ⟨v, rfl, hR⟩
  · rintro ⟨v, rfl, hR⟩
    exact ⟨[_], [_, _, _, _], rfl, rfl, [_], [_, _, _], rfl, rfl, [_], [_, _], rfl, rfl, [_], [_], rfl, rfl, v, rfl, hR⟩
theorem msg_at {w wr : World} {A : Option Addr} {n : Nat} {xs : List Msg} (h : kMsg.C w A n xs) (hb : Below w.heap.size w wr) (k : Nat) (hk : k < n) :
    ∃ ad x B d, A = some ad ∧ xs.getD k default = x ∧ x ∈ xs ∧ xs.take (k + 1) = xs.take k ++ [x] ∧ wr.cell? (ad.add (k * 5)) = some (.int .i64 x.src) ∧
      wr.cell? { block := (ad.add (k * 5)).block, off := (ad.add (k * 5)).off + 1 } = some (.int .i64 x.dst) ∧ wr.cell? { block := (ad.add (k * 5)).block, off := (ad.add (k * 5)).off + 2 } = some (.int .i64 x.kind) ∧
      wr.cell? { block := (ad.add (k * 5)).block, off := (ad.add (k * 5)).off + 3 } = some (.int .i64 x.pos) ∧ wr.cell? { block := (ad.add (k * 5)).block, off := (ad.add (k * 5)).off + 4 } = some (.slice B x.body.length d) ∧
      x.body.length ≤ d ∧ Kd.string.C w B x.body.length x.body := by
  obtain ⟨ad, cs, rfl, hlen, hcs, hcell⟩ := C_at h k hk default
  rw [kMsg_K] at hcs
  obtain ⟨B, d, rfl, hl, hC⟩ := hcs
  have hkl : k < xs.length := by rw [h.1]; exact hk
  exact ⟨ad, _, B, d, rfl, rfl, getD_mem xs k default hkl, take_snoc xs k default hkl, pw_cell_below hb (hcell 0 _ rfl), pw_cell_below hb (cell_off (j := 0) (hcell 1 _ rfl)), pw_cell_below hb (cell_off (j := 1) (hcell 2 _ rfl)), pw_cell_below hb (cell_off (j := 2) (hcell 3 _ rfl)), pw_cell_below hb (cell_off (j := 3) (hcell 4 _ rfl)), hl, hC⟩
/-- A message and the one block that its body may have. -/
def kMB : Kd (Msg × Nat) where
  sz := 5
  E := kMsg.E
  K := fun w x cs => kMsg.K w x.1 cs
  M := fun w base ok x cs => kMsg.M w base (fun k => ok k ∧ k = x.2) x.1 cs
  K_len := fun h => kMsg.K_len h
  K_one := fun h => kMsg.K_one h
  K_below := fun hb h => kMsg.K_below hb h
  K_of_M := fun h => kMsg.K_of_M h
  M_mono := fun hok h => kMsg.M_mono (fun k hk => ⟨hok k hk.1, hk.2⟩) h
  M_bound := fun h => kMsg.M_mono (fun k hk => ⟨⟨hk.1.1, hk.2⟩, hk.1.2⟩) (kMsg.M_bound h)
  M_move := fun hm h => kMsg.M_move (fun k hk => hm k hk.1) h
  M_lower := fun hb h => kMsg.M_lower hb h
theorem kMB_M {w : World} {base : Nat} {ok : Nat → Prop} {x : Msg × Nat} {cs : List Value} : kMB.M w base ok x cs ↔ ∃ v, cs = [.int .i64 x.1.src, .int .i64 x.1.dst, .int .i64 x.1.kind, .int .i64 x.1.pos, v] ∧ Kd.string.R 9 w base (fun k => ok k ∧ k = x.2) v x.1.body := kMsg_M
/-- As one reads it, the blocks left out. -/
theorem kMB_C {w : World} {A : Option Addr} {n : Nat} {xs : List (Msg × Nat)} (h : kMB.C w A n xs) : kMsg.C w A n (xs.map Prod.fst) := by
  obtain ⟨h1, h2, h3⟩ := h
  refine ⟨by rw [List.length_map]; exact h1, h2, fun hn => ?_⟩
  obtain ⟨ad, he, hc⟩ := h3 hn
  refine ⟨ad, he, fun j p hj => ?_⟩
  rw [List.getElem?_map] at hj
  obtain ⟨q, hq, rfl⟩ := Option.map_eq_some_iff.1 hj
  exact hc j q hq
/-- The rows stay where another body's block alone has turned. -/
theorem kMB_but {w w1 : World} {e base b : Nat} {ok S : Nat → Prop} {v : Value} {xs : List (Msg × Nat)} (h : kMB.R e w base ok v xs) (hS : ∀ k, S k → k = b ∧ some k ≠ v.ownBlock) (hne : ∀ x ∈ xs, x.2 ≠ b)
    (hm : ∀ k, k < w.heap.size → ¬ S k → w1.heap[k]? = w.heap[k]?) : kMB.R e w1 base ok v xs := by
  obtain ⟨h0, inner, ho, hr⟩ := h
  refine ⟨h0, inner, own_move ho (fun k hk => hm k (own_lt ho k hk) (fun hs => (hS k hs).2 hk.symm)), hr.1, fun j p hp => ?_⟩
  have hM := hr.2 j p hp
  have hpm : p ∈ xs := List.mem_of_getElem? hp
  exact Kd.M_step (d := kMsg) hM (fun k hk hl => hm k hl (fun hs => hne p hpm (hk.2 ▸ (hS k hs).1)))

/-! ### what a network does -/
structure NS where
  nodes : Int
  sent : Int
  doubled : Int
  lost : Int
  delivered : Int
  l : List Msg
def NS.isNode (n : NS) (k : Int) : Prop := 0 ≤ k ∧ k < n.nodes
instance (n : NS) (k : Int) : Decidable (n.isNode k) := by unfold NS.isNode; infer_instance
def NS.isAt (n : NS) (k : Int) : Prop := 0 ≤ k ∧ k < n.l.length
instance (n : NS) (k : Int) : Decidable (n.isAt k) := by unfold NS.isAt; infer_instance
def NS.send (n : NS) (m : Msg) : Int × NS :=
  if ¬ n.isNode m.src ∨ ¬ n.isNode m.dst ∨ m.src = m.dst then (230, n)
  else if 1000 ≤ n.l.length then (2, n) else (0, { n with l := n.l ++ [m], sent := n.sent + 1 })
def NS.deliver (n : NS) (i : Int) : (Msg × Int) × NS :=
  if n.isAt i then ((n.l.getD i.toNat default, 0), { n with l := n.l.eraseIdx i.toNat, delivered := n.delivered + 1 }) else ((default, 1), n)
def NS.double (n : NS) (i : Int) : Int × NS :=
  if ¬ n.isAt i then (1, n) else if 1000 ≤ n.l.length then (2, n) else (0, { n with l := n.l ++ [n.l.getD i.toNat default], doubled := n.doubled + 1 })
def NS.lose (n : NS) (i : Int) : Int × NS :=
  if n.isAt i then (0, { n with l := n.l.eraseIdx i.toNat, lost := n.lost + 1 }) else (1, n)
/-- The program's network: block p has its cells, the list's row and the bodies' blocks are ok ones, no two messages share a block. -/
structure PNet (w : World) (base p : Nat) (ok : Nat → Prop) (n : NS) (A : Option Addr) (c : Nat) (xs : List (Msg × Nat)) : Prop where
  blk : w.heap[p]? = some (.cells #[.int .i64 n.sent, .int .i64 n.doubled, .int .i64 n.lost, .int .i64 n.delivered, .int .i64 n.nodes, .slice A xs.length c] 45 (0, 0))
  row : kMB.R 32 w base ok (.slice A xs.length c) xs
  fst : n.l = xs.map Prod.fst
  nodup : (xs.map Prod.snd).Nodup
  lt : ∀ x ∈ xs, x.2 < w.heap.size
  pb : p < base
  pok : ¬ ok p
  cnt : xs.length ≤ 1000
  bd : ∀ x ∈ xs, x.1.body.length * 16 ≤ 140737488355328
/-- The reference's network. -/
structure RNet (w : World) (base r : Nat) (ok : Nat → Prop) (n : NS) (A : Option Addr) (c : Nat) : Prop where
  blk : w.heap[r]? = some (.cells #[.int .i64 n.nodes, .slice A n.l.length c, .int .i64 n.sent, .int .i64 n.doubled, .int .i64 n.lost, .int .i64 n.delivered] 59 (0, 0))
  row : kMsg.R 32 w base ok (.slice A n.l.length c) n.l
  pb : r < base
  pok : ¬ ok r
  cnt : n.l.length ≤ 1000
  bd : ∀ x ∈ n.l, x.body.length * 16 ≤ 140737488355328
theorem PNet.mod {w w' : World} {base p : Nat} {ok S : Nat → Prop} {n : NS} {A : Option Addr} {c : Nat} {xs : List (Msg × Nat)} (h : PNet w base p ok n A c xs) (k : Mod w w' S) (hp : ¬ S p) (hS : ∀ i, ok i → ¬ S i) : PNet w' base p ok n A c xs :=
  ⟨blk_mod h.blk k hp, Kd.R_step h.row (fun i hi hl => k.block i hl (hS i hi)), h.fst, h.nodup, fun x hx => Nat.lt_of_lt_of_le (h.lt x hx) k.size, h.pb, h.pok, h.cnt, h.bd⟩
theorem PNet.below {w w' : World} {base p : Nat} {ok : Nat → Prop} {n : NS} {A : Option Addr} {c : Nat} {xs : List (Msg × Nat)} (h : PNet w base p ok n A c xs) (k : Below w.heap.size w w') : PNet w' base p ok n A c xs :=
  h.mod (S := fun _ => False) (Mod.of_below k) (fun h => h) (fun _ _ h => h)
theorem RNet.mod {w w' : World} {base p : Nat} {ok S : Nat → Prop} {n : NS} {A : Option Addr} {c : Nat} (h : RNet w base p ok n A c) (k : Mod w w' S) (hp : ¬ S p) (hS : ∀ i, ok i → ¬ S i) : RNet w' base p ok n A c :=
  ⟨blk_mod h.blk k hp, Kd.R_step h.row (fun i hi hl => k.block i hl (hS i hi)), h.pb, h.pok, h.cnt, h.bd⟩
theorem RNet.below {w w' : World} {base p : Nat} {ok : Nat → Prop} {n : NS} {A : Option Addr} {c : Nat} (h : RNet w base p ok n A c) (k : Below w.heap.size w w') : RNet w' base p ok n A c :=
  h.mod (S := fun _ => False) (Mod.of_below k) (fun h => h) (fun _ _ h => h)
/-- After a call of the program's: its answer, its network, what may have turned. -/
def PStep (base p : Nat) (ok : Nat → Prop) (v : Value) (n : NS) (w : World) (e : Ending) (w' : World) : Prop :=
  e = .returned v ∧ (∃ A c xs, PNet w' base p ok n A c xs) ∧ Mod w w' (fun k => k = p ∨ ok k)
def RStep (base p : Nat) (ok : Nat → Prop) (v : Value) (n : NS) (w : World) (e : Ending) (w' : World) : Prop :=
  e = .returned v ∧ (∃ A c, RNet w' base p ok n A c) ∧ Mod w w' (fun k => k = p ∨ ok k)
end Go.Proofs.Ytlnneaccgfakeaa
