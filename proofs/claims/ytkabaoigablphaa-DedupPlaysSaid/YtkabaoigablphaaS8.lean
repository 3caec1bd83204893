/- Chapter 8: the law's small helpers. -/
import Derived.Test.YtkabaoigablphaaS7
import Derived.Test.YtkabaoigablphaaV3
namespace Go.Proofs.Ytkabaoigablphaa
open Go.HL
set_option maxHeartbeats 800000
set_option maxRecDepth 10000

theorem pick_spec {c n : Int} {H : Heap} {K : Value → Heap → Prop} (hn : n ≠ 0) (k : K (.int .i64 (pickI c n)) H) : FnH Try.prog 10 #[.int .i64 c, .int .i64 n] H K := by
  apply logboomlaw8_pick_fn
  exact pick_formula hn k
/-- An op: kind, pid, epoch, sequence, how many, offset. -/
structure Op where
  kind : Int
  pid : Int
  epoch : Int
  seq : Int
  n : Int
  off : Int
abbrev opV (o : Op) : Value := .agg #[.int .i64 o.kind, .int .i64 o.pid, .int .i64 o.epoch, .int .i64 o.seq, .int .i64 o.n, .int .i64 o.off]
def smallM (o : Op) : Op := ⟨pickI o.kind 8, 1 + pickI o.pid 3, pickI o.epoch 3, pickI o.seq 12, 1 + pickI o.n 3, o.off⟩
structure OpB (o : Op) : Prop where
  kind : i64B o.kind
  pid : i64B o.pid
  epoch : i64B o.epoch
  seq : i64B o.seq
  n : i64B o.n
  off : i64B o.off
theorem small_spec {o : Op} (hb : OpB o) {H : Heap} {K : Value → Heap → Prop} (k : K (opV (smallM o)) H) : FnH Try.prog 9 #[opV o] H K := by
  apply logboomlaw8_small_fn
  unfold logboomlaw8_small_vc
  obtain ⟨p0, p1⟩ := pickI_in (c := o.pid) (n := 3) (by decide) hb.pid.1 hb.pid.2
  obtain ⟨n0, n1⟩ := pickI_in (c := o.n) (n := 3) (by decide) hb.n.1 hb.n.2
  refine pick_spec (by decide) ⟨_, rfl, HL.Sub.refl _, pick_spec (by decide) ⟨_, rfl, HL.Sub.refl _, pick_spec (by decide) ⟨_, rfl, HL.Sub.refl _, pick_spec (by decide) ⟨_, rfl, HL.Sub.refl _, pick_spec (by decide) ⟨_, rfl, HL.Sub.refl _, ?_⟩⟩⟩⟩⟩
  rw [wrap64_id (n := 1 + pickI o.pid 3) (by omega) (by omega), wrap64_id (n := 1 + pickI o.n 3) (by omega) (by omega)]
  exact k
/-- A batch of zeros: base, pid, epoch, sequence, how many. -/
structure Bt where
  base : Int
  pid : Int
  epoch : Int
  seq : Int
  n : Nat
abbrev btV (b : Bt) (s : Sl) : Value := .agg #[.int .i64 b.base, .int .i64 0, .int .i64 b.pid, .int .i64 b.epoch, .int .i64 b.seq, .slice s.p s.n s.c]
structure BtB (b : Bt) : Prop where
  seq0 : 0 ≤ b.seq
  seq1 : b.seq ≤ 1000000
  n : b.n ≤ 1000000
def overM (a b : Bt) : Bool := decide (a.pid = b.pid) && decide (a.epoch = b.epoch) && decide (a.seq < b.seq + b.n) && decide (b.seq < a.seq + a.n)
theorem overlap_spec {a b : Bt} {sa sb : Sl} (ha : BtB a) (hb : BtB b) (na : sa.n = a.n) (nb : sb.n = b.n) {H : Heap} {K : Value → Heap → Prop} (k : K (.bool (overM a b)) H) : FnH Try.prog 33 #[btV a sa, btV b sb] H K := by
  apply logboomlaw8_overlap_fn
  unfold logboomlaw8_overlap_vc
  have := ha.seq0; have := ha.seq1; have := ha.n; have := hb.seq0; have := hb.seq1; have := hb.n
  rw [na, nb, wrap64_id (n := b.seq + (b.n : Int)) (by omega) (by omega), wrap64_id (n := a.seq + (a.n : Int)) (by omega) (by omega)]
  unfold overM at k
  refine br_intro (fun q => br_intro (fun q2 => br_intro (fun q3 => ?_) (fun q3 => ?_)) (fun q2 => ?_)) (fun q => ?_)
  · rw [decide_eq_true (eq_of_beq q), decide_eq_true (eq_of_beq q2), q3] at k; exact k
  · rw [q3] at k; simpa using k
  · have q2 : ¬ a.epoch = b.epoch := by simpa using q2
    rw [decide_eq_false q2] at k; simpa using k
  · have q : ¬ a.pid = b.pid := by simpa using q
    rw [decide_eq_false q] at k; simpa using k
end Go.Proofs.Ytkabaoigablphaa
