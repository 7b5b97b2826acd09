/- Layer 23, plain: both networks in one memory. -/
import Derived.Test.YtlnneaccgfakeaaK14
set_option linter.unusedVariables false
set_option linter.unusedSimpArgs false
namespace Go.Proofs.Ytlnneaccgfakeaa
open Go.RowKit Go.Proofs.YtlnneaccgfakeaaW.PrintWords Go.Proofs.YtlnneaccgfakeaaW.PrintLast
/-- The program's network and the reference's, each in blocks of its own. -/
structure Duo (w : World) (base p r : Nat) (okP okQ : Nat → Prop) (n : NS) (A : Option Addr) (c : Nat) (xs : List (Msg × Nat)) (A' : Option Addr) (c' : Nat) : Prop where
  P : PNet w base p okP n A c xs
  R : RNet w base r okQ n A' c'
  dis : ∀ q, okP q → ¬ okQ q
  bP : ∀ q, okP q → base ≤ q ∧ q < w.heap.size
  bQ : ∀ q, okQ q → base ≤ q ∧ q < w.heap.size
  ne : p ≠ r
  hb : base ≤ w.heap.size
def HDuo (w : World) (base p r : Nat) (n : NS) : Prop := ∃ okP okQ A c xs A' c', Duo w base p r okP okQ n A c xs A' c'
theorem PNet.bound {w : World} {base p : Nat} {ok : Nat → Prop} {n : NS} {A : Option Addr} {c : Nat} {xs : List (Msg × Nat)} (h : PNet w base p ok n A c xs) : PNet w base p (fun q => ok q ∧ base ≤ q ∧ q < w.heap.size) n A c xs :=
  ⟨h.blk, Kd.R_mono (Kd.R_bound h.row) (fun q hq => ⟨hq.1, hq.2.1, hq.2.2.1⟩), h.fst, h.nodup, h.lt, h.pb, fun hp => h.pok hp.1, h.cnt, h.bd⟩
theorem RNet.bound {w : World} {base p : Nat} {ok : Nat → Prop} {n : NS} {A : Option Addr} {c : Nat} (h : RNet w base p ok n A c) : RNet w base p (fun q => ok q ∧ base ≤ q ∧ q < w.heap.size) n A c :=
  ⟨h.blk, Kd.R_mono (Kd.R_bound h.row) (fun q hq => ⟨hq.1, hq.2.1, hq.2.2.1⟩), h.pb, fun hp => h.pok hp.1, h.cnt, h.bd⟩
theorem duo_mk {w : World} {base p r : Nat} {okP okQ : Nat → Prop} {n : NS} {A : Option Addr} {c : Nat} {xs : List (Msg × Nat)} {A' : Option Addr} {c' : Nat} (hP : PNet w base p okP n A c xs) (hR : RNet w base r okQ n A' c')
    (hd : ∀ q, q < w.heap.size → okP q → ¬ okQ q) (hne : p ≠ r) (hb : base ≤ w.heap.size) : HDuo w base p r n :=
  ⟨_, _, A, c, xs, A', c', hP.bound, hR.bound, fun q h1 h2 => hd q h1.2.2 h1.1 h2.1, fun q h => h.2, fun q h => h.2, hne, hb⟩
theorem Duo.below {w w' : World} {base p r : Nat} {okP okQ : Nat → Prop} {n : NS} {A : Option Addr} {c : Nat} {xs : List (Msg × Nat)} {A' : Option Addr} {c' : Nat} (h : Duo w base p r okP okQ n A c xs A' c') (hb : Below w.heap.size w w') :
    Duo w' base p r okP okQ n A c xs A' c' :=
  ⟨h.P.below hb, h.R.below hb, h.dis, fun q hq => ⟨(h.bP q hq).1, Nat.lt_of_lt_of_le (h.bP q hq).2 hb.size⟩, fun q hq => ⟨(h.bQ q hq).1, Nat.lt_of_lt_of_le (h.bQ q hq).2 hb.size⟩, h.ne, Nat.le_trans h.hb hb.size⟩
/-- How far the counts have come. -/
def NB (n : NS) (K : Int) : Prop := (0 ≤ n.sent ∧ n.sent ≤ K) ∧ (0 ≤ n.doubled ∧ n.doubled ≤ K) ∧ (0 ≤ n.lost ∧ n.lost ≤ K) ∧ 0 ≤ n.delivered ∧ n.delivered ≤ K
theorem NB.more {n : NS} {K : Int} (h : NB n K) : NB n (K + 1) := by unfold NB at h ⊢; omega
theorem nb_send {n : NS} {K : Int} (h : NB n K) (m : Msg) : NB (n.send m).2 (K + 1) ∧ (n.send m).2.nodes = n.nodes := by
  unfold NS.send
  split
  · exact ⟨h.more, rfl⟩
  · split
    · exact ⟨h.more, rfl⟩
    · refine ⟨?_, rfl⟩; unfold NB at h ⊢; dsimp only; omega
theorem nb_double {n : NS} {K : Int} (h : NB n K) (i : Int) : NB (n.double i).2 (K + 1) ∧ (n.double i).2.nodes = n.nodes := by
  unfold NS.double
  split
  · exact ⟨h.more, rfl⟩
  · split
    · exact ⟨h.more, rfl⟩
    · refine ⟨?_, rfl⟩; unfold NB at h ⊢; dsimp only; omega
theorem nb_deliver {n : NS} {K : Int} (h : NB n K) (i : Int) : NB (n.deliver i).2 (K + 1) ∧ (n.deliver i).2.nodes = n.nodes := by
  unfold NS.deliver
  split
  · refine ⟨?_, rfl⟩; unfold NB at h ⊢; dsimp only; omega
  · exact ⟨h.more, rfl⟩
theorem nb_lose {n : NS} {K : Int} (h : NB n K) (i : Int) : NB (n.lose i).2 (K + 1) ∧ (n.lose i).2.nodes = n.nodes := by
  unfold NS.lose
  split
  · refine ⟨?_, rfl⟩; unfold NB at h ⊢; dsimp only; omega
  · exact ⟨h.more, rfl⟩
def PlPost (base p r : Nat) (nodes K : Int) (w : World) (e : Ending) (w' : World) : Prop :=
  e = .returned (.bool true) ∧ (∃ n, NB n (K + 1) ∧ n.nodes = nodes ∧ HDuo w' base p r n) ∧ Mod w w' (fun q => q = p ∨ q = r ∨ base ≤ q)
theorem Kin.mod {w w' : World} {ok : Nat → Prop} (k : Kin w w' ok) : Mod w w' ok := ⟨k.os, k.tape, k.output, k.size, k.block⟩
/-- One message's shape, in a block of its own. -/
theorem shMsg_one {w : World} {ok : Nat → Prop} {g : Nat} {m : Msg} {v : Value} {t : TypeId} (hg : w.heap[g]? = some (.cells #[.int .i64 m.src, .int .i64 m.dst, .int .i64 m.kind, .int .i64 m.pos, v] t (0, 0))) (hok : ok g) (hv : ShStr w ok v) :
    ShMsg w ok (.slice (some ⟨g, 0, none⟩) 1 1) :=
  ⟨_, 1, 1, rfl, by decide, fun _ => ⟨g, rfl, hok, fun j hj => by
    obtain rfl : j = 0 := by omega
    exact ⟨⟨_, t, _, hg, rfl, rfl⟩, v, ⟨_, t, _, hg, rfl, rfl⟩, hv⟩⟩⟩
/-- The program's network stays where a body's block that it has no more is written over. -/
theorem PNet.but {w w1 : World} {base p b : Nat} {ok S : Nat → Prop} {n : NS} {A : Option Addr} {c : Nat} {xs : List (Msg × Nat)} (h : PNet w base p ok n A c xs) (hS : ∀ k, S k → k = b ∧ some k ≠ (Value.slice A xs.length c).ownBlock) (hne : ∀ x ∈ xs, x.2 ≠ b) (hp : ¬ S p)
    (hm : Mod w w1 S) : PNet w1 base p ok n A c xs :=
  ⟨blk_mod h.blk hm hp, kMB_but h.row hS hne (fun k hk hs => hm.block k hk hs), h.fst, h.nodup, fun x hx => Nat.lt_of_lt_of_le (h.lt x hx) hm.size, h.pb, h.pok, h.cnt, h.bd⟩
theorem opSize : (Try.prog.info? 34).map (·.size) = some 7 := by kernel_rfl
end Go.Proofs.Ytlnneaccgfakeaa
