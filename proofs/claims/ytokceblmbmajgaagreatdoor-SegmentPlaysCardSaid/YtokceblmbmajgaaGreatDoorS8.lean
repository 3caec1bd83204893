/- Chapter 5: the laws' own functions: pick, small, sameBatch, same, sameIndex. -/
import Derived.Test.YtokceblmbmajgaaGreatDoorS7
import Derived.Test.YtokceblmbmajgaaGreatDoorV4
import Derived.Laws.StructEq
namespace Go.Proofs.YtokceblmbmajgaaGreatDoor
open Go Go.HL
set_option maxHeartbeats 3200000
set_option maxRecDepth 10000

theorem cellI_eq {x y : Int} {cs ds : Array Value} {o d : Nat} (hx : cs[o]? = some (.int .i64 x)) (hy : ds[o]? = some (.int .i64 y)) {β : Type} {f : Bool → Sem β} {H : Heap} {K : β → Prop} (k : runR Tryz.prog (f (x == y)) H K) :
    runR Tryz.prog (do let u ← part 3 cs o; let v ← part 3 ds o; let b ← Op.equalIn (d + 1) 3 u v; f b) H K := by
  have hp : ∀ {zs : Array Value} {z : Int} {K' : Value → Prop}, zs[o]? = some (.int .i64 z) → K' (.int .i64 z) → runR Tryz.prog (part 3 zs o) H K' := fun h k => by
    unfold part
    refine runR_bind (runR_isAgg Tryz.underlying3 ?_)
    have : isAggT Tryz.prog 3 = false := by kernel_rfl
    rw [this]
    simp only [Bool.false_eq_true, if_false, h]
    exact k
  refine runR_bind (hp hx ?_)
  refine runR_bind (hp hy ?_)
  refine runR_bind ?_
  unfold Op.equalIn
  refine runR_bind (runR_underlying Tryz.underlying3 ?_)
  exact k
theorem cellS_eq {x y : ByteArray} {cs ds : Array Value} {o d : Nat} (hx : cs[o]? = some (.string x)) (hy : ds[o]? = some (.string y)) {β : Type} {f : Bool → Sem β} {H : Heap} {K : β → Prop} (k : runR Tryz.prog (f (x == y)) H K) :
    runR Tryz.prog (do let u ← part 9 cs o; let v ← part 9 ds o; let b ← Op.equalIn (d + 1) 9 u v; f b) H K := by
  have hp : ∀ {zs : Array Value} {z : ByteArray} {K' : Value → Prop}, zs[o]? = some (.string z) → K' (.string z) → runR Tryz.prog (part 9 zs o) H K' := fun h k => by
    unfold part
    refine runR_bind (runR_isAgg Tryz.underlying9 ?_)
    have : isAggT Tryz.prog 9 = false := by kernel_rfl
    rw [this]
    simp only [Bool.false_eq_true, if_false, h]
    exact k
  refine runR_bind (hp hx ?_)
  refine runR_bind (hp hy ?_)
  refine runR_bind ?_
  unfold Op.equalIn
  refine runR_bind (runR_underlying Tryz.underlying9 ?_)
  exact k
theorem entry_same {a b : En} {H : Heap} {F : Bool → Prop} (kF : F (decide (a = b))) : runR Tryz.prog (Op.equal 94 (.agg #[.int .i64 a.1, .int .i64 a.2.1, .string a.2.2]) (.agg #[.int .i64 b.1, .int .i64 b.2.1, .string b.2.2])) H F := by
  obtain ⟨a1, a2, a3⟩ := a
  obtain ⟨b1, b2, b3⟩ := b
  have kF : ∀ r : Bool, r = decide (a1 = b1 ∧ a2 = b2 ∧ a3 = b3) → F r := fun r hr => by
    rw [hr]
    have : decide ((a1, a2, a3) = (b1, b2, b3)) = decide (a1 = b1 ∧ a2 = b2 ∧ a3 = b3) := by simp
    rw [← this]; exact kF
  unfold Op.equal Op.maxDepth Op.equalIn
  refine runR_bind (runR_underlying Tryz.underlying94 ?_)
  dsimp only
  have hs : Tryz.prog.stoodInHeld 94 = false := by kernel_rfl
  refine runR_bind ?_
  show runR Tryz.prog (if Tryz.prog.stoodInHeld 94 = true then _ else _) H F
  rw [hs]
  simp only [Bool.false_eq_true, if_false, List.forIn_toArray, List.forIn_cons, List.forIn_nil]
  simp only [ne_eq, String.reduceEq, not_false_eq_true, if_true]
  refine runR_bind (runR_bind (cellI_eq (d := 9998) rfl rfl ?_))
  by_cases e1 : a1 = b1
  case neg =>
    rw [show (a1 == b1) = false by simpa using e1]
    exact kF false (decide_eq_false (fun z => e1 z.1)).symm
  rw [show (a1 == b1) = true by simpa using e1]
  refine runR_bind (cellI_eq (d := 9998) rfl rfl ?_)
  by_cases e2 : a2 = b2
  case neg =>
    rw [show (a2 == b2) = false by simpa using e2]
    exact kF false (decide_eq_false (fun z => e2 z.2.1)).symm
  rw [show (a2 == b2) = true by simpa using e2]
  refine runR_bind (cellS_eq (d := 9998) rfl rfl ?_)
  rw [beq_toListBytes, str_eq]
  by_cases e3 : a3 = b3
  case neg =>
    rw [decide_eq_false e3]
    exact kF false (decide_eq_false (fun z => e3 z.2.2)).symm
  rw [decide_eq_true e3]
  exact kF true (decide_eq_true ⟨e1, e2, e3⟩).symm
theorem entry_ne {a b : En} {H : Heap} {K : Value → Prop} (k : K (.bool (!decide (a = b)))) : runR Tryz.prog (binOp .neq 94 (.agg #[.int .i64 a.1, .int .i64 a.2.1, .string a.2.2]) (.agg #[.int .i64 b.1, .int .i64 b.2.1, .string b.2.2])) H K := by
  show runR Tryz.prog (Op.equal 94 (.agg #[.int .i64 a.1, .int .i64 a.2.1, .string a.2.2]) (.agg #[.int .i64 b.1, .int .i64 b.2.1, .string b.2.2]) >>= fun b => pure (.bool (!b))) H K
  exact runR_bind (entry_same k)
theorem entry_eq {a b : En} {H : Heap} {K : Value → Prop} (k : K (.bool (decide (a = b)))) : runR Tryz.prog (binOp .eql 94 (.agg #[.int .i64 a.1, .int .i64 a.2.1, .string a.2.2]) (.agg #[.int .i64 b.1, .int .i64 b.2.1, .string b.2.2])) H K := by
  show runR Tryz.prog (Op.equal 94 (.agg #[.int .i64 a.1, .int .i64 a.2.1, .string a.2.2]) (.agg #[.int .i64 b.1, .int .i64 b.2.1, .string b.2.2]) >>= fun b => pure (.bool b)) H K
  exact runR_bind (entry_same k)
theorem rcd_same {a : Rcd} {H : Heap} {F : Bool → Prop} (kF : F true) : runR Tryz.prog (Op.equal 86 (.agg #[.string a.1, .string a.2.1, .int .i64 a.2.2]) (.agg #[.string a.1, .string a.2.1, .int .i64 a.2.2])) H F := by
  obtain ⟨a1, a2, a3⟩ := a
  unfold Op.equal Op.maxDepth Op.equalIn
  refine runR_bind (runR_underlying Tryz.underlying86 ?_)
  dsimp only
  have hs : Tryz.prog.stoodInHeld 86 = false := by kernel_rfl
  refine runR_bind ?_
  show runR Tryz.prog (if Tryz.prog.stoodInHeld 86 = true then _ else _) H F
  rw [hs]
  simp only [Bool.false_eq_true, if_false, List.forIn_toArray, List.forIn_cons, List.forIn_nil]
  simp only [ne_eq, String.reduceEq, not_false_eq_true, if_true]
  refine runR_bind (runR_bind (cellS_eq (d := 9998) rfl rfl ?_))
  rw [beq_toListBytes, str_eq, decide_eq_true rfl]
  refine runR_bind (cellS_eq (d := 9998) rfl rfl ?_)
  rw [beq_toListBytes, str_eq, decide_eq_true rfl]
  refine runR_bind (cellI_eq (d := 9998) rfl rfl ?_)
  rw [show (a3 == a3) = true by simp]
  exact kF
theorem rcd_ne {a : Rcd} {H : Heap} {K : Value → Prop} (k : K (.bool false)) : runR Tryz.prog (binOp .neq 86 (.agg #[.string a.1, .string a.2.1, .int .i64 a.2.2]) (.agg #[.string a.1, .string a.2.1, .int .i64 a.2.2])) H K := by
  show runR Tryz.prog (Op.equal 86 (.agg #[.string a.1, .string a.2.1, .int .i64 a.2.2]) (.agg #[.string a.1, .string a.2.1, .int .i64 a.2.2]) >>= fun b => pure (.bool (!b))) H K
  exact runR_bind (rcd_same k)
def vr : Rcd := (⟨#[]⟩, ⟨#[118]⟩, 0)
def smallB (base : Int) (n : Nat) : Ba := ⟨base, 1, 0, 0, 0, List.replicate n vr⟩
theorem small_end (base : Int) (n : Nat) : endB (smallB base n) = base + n := by unfold endB smallB; simp
theorem recN_vr : (recN vr).length ≤ 31 := by
  have h1 := encN_len 0
  have h2 := encN_len 1
  have h3 : nb (⟨#[118]⟩ : ByteArray) = [118] := by decide +kernel
  have h4 : nb (⟨#[]⟩ : ByteArray) = [] := rfl
  show (encN 0 ++ ((encN ((0 : Nat) : Int) ++ nb (⟨#[]⟩ : ByteArray)) ++ (encN ((1 : Nat) : Int) ++ nb (⟨#[118]⟩ : ByteArray)))).length ≤ 31
  rw [h3, h4]
  have e0 : encN ((0 : Nat) : Int) = encN 0 := rfl
  have e1 : encN ((1 : Nat) : Int) = encN 1 := rfl
  rw [e0, e1]
  simp only [List.length_append, List.length_cons, List.length_nil]
  omega
theorem small_right {base : Int} {n : Nat} (b0 : 0 ≤ base) (b1 : base + n ≤ 1000000001) (n0 : 1 ≤ n) (n1 : n ≤ 64) : rightB (smallB base n) = 0 := by
  have hin : ∀ x : Int, 0 ≤ x → x ≤ 1000000000 → inB x 1000000000 = true := fun x h0 h1 => by unfold inB; rw [decide_eq_true h0, decide_eq_true h1]; rfl
  have hrep : ∀ r ∈ List.replicate n vr, r = vr := fun r hr => List.eq_of_mem_replicate hr
  have hany : ∀ {p : Rcd → Bool}, p vr = false → ¬ (List.replicate n vr).any p = true := fun {p} hp h => by
    obtain ⟨r, hr, h2⟩ := List.any_eq_true.1 h
    rw [hrep r hr, hp] at h2; cases h2
  have htx : TextOk vr := ⟨by decide, by decide⟩
  have hbody : (bodyM [base, 1, 0, 0, 0, ((List.replicate n vr).length : Nat)] (List.replicate n vr)).length ≤ 4088 := by
    unfold bodyM
    rw [List.length_append]
    have h1 := flat_le (f := encInt) (m := 10) (l := [base, 1, 0, 0, 0, ((List.replicate n vr).length : Nat)]) fun a _ => encInt_len a
    have h2 := flat_le (f := recM) (m := 31) (l := List.replicate n vr) fun r hr => by
      rw [hrep r hr, recM_eq htx (by decide), List.length_map]; exact recN_vr
    rw [List.length_replicate] at h2
    simp only [List.length_cons, List.length_nil] at h1
    omega
  show rightM base 1 0 0 0 (List.replicate n vr) = 0
  unfold rightM
  have ha : argBad base 1 0 0 0 ((List.replicate n vr).length : Nat) = false := by
    unfold argBad
    rw [hin 1 (by decide) (by decide), hin 0 (by decide) (by decide), decide_eq_false (by omega), List.length_replicate, decide_eq_false (show ¬ ((n : Nat) : Int) = 0 by omega)]
    have : orI .i64 0 0 = 0 := by decide +kernel
    rw [this]
    simp
  rw [if_neg (by rw [ha]; decide), if_neg (hany (by show (!inB 0 1000000000) = false; rw [hin 0 (by decide) (by decide)]; rfl)), if_neg (by rw [List.length_replicate]; omega), if_neg (hany (by decide +kernel)), if_neg (by rw [List.length_replicate]; omega), if_neg (by omega)]
section
variable {cs : List Chunk} {H : Heap} {K : Value → Heap → Prop}
theorem pick5_spec {c n : Int} (hn : n ≠ 0) (k : K (.int .i64 (pickI c n)) H) : FnH Tryz.prog 5 #[.int .i64 c, .int .i64 n] H K := by
  apply logboomlaw5_pick_fn
  exact pick_formula hn k
theorem small5_spec {base : Int} {n : Nat} (h : HL.Holds cs H) (hn : n ≤ 1000) (k : ∀ (s : Sl) H', HL.Sub H H' → HL.Holds (ownR s (smallB base n).recs :: cs) H' → K (.agg #[.int .i64 base, .int .i64 1, .int .i64 0, .int .i64 0, .int .i64 0, .slice s.p s.n s.c]) H') :
    FnH Tryz.prog 14 #[.int .i64 base, .int .i64 (n : Nat)] H K := by
  apply logboomlaw5_small_fn
  unfold logboomlaw5_small_vc
  refine ⟨fun i n1 n2 n3 n4 n5 l H' => n1 = base ∧ n2 = 1 ∧ n3 = 0 ∧ n4 = 0 ∧ n5 = 0 ∧ 0 ≤ i ∧ i ≤ (n : Int) ∧ HL.Holds [ownR l (List.replicate i.toNat vr), ro H] H', fun i _ _ _ _ _ _ _ => ((n : Int) - i).toNat, ⟨rfl, rfl, rfl, rfl, rfl, Int.le_refl _, by omega, (Holds.whole H).own_nil 86 3⟩, ?_⟩
  rintro i n1 n2 n3 n4 n5 l H1 ⟨rfl, rfl, rfl, rfl, rfl, i0, i1, h1⟩
  have hl : l.n = i.toNat := by
    have := (Own.recs eRlen (by decide) (h1.own 0 rfl) (by rw [List.length_replicate]; omega)).len
    rw [List.length_replicate] at this; exact this
  refine br_intro (fun w => ?_) (fun w => ?_)
  · have w := of_decide_eq_true w
    rw [wrap64_id (n := i + 1) (by omega) (by omega)]
    refine Holds.push okRc h1 (xs := [.string (⟨#[]⟩ : ByteArray), .string (⟨#[118]⟩ : ByteArray), .int .i64 0]) (m := 1) rfl rfl (by omega) fun r H2 h2 n2 => ⟨r, rfl, rfl, ⟨rfl, rfl, rfl, rfl, rfl, by omega, by omega, ?_⟩, by dsimp only; omega⟩
    have e : List.replicate (i + 1).toNat vr = List.replicate i.toNat vr ++ [vr] := by
      have : (i + 1).toNat = i.toNat + 1 := by omega
      rw [this, List.replicate_succ']
    rw [e]
    show HL.Holds [own 86 3 r (List.flatMap eR _), ro H] H2
    rw [List.flatMap_append]
    exact h2
  · have w := of_decide_eq_false w
    have e : i.toNat = n := by omega
    rw [e] at h1
    exact k l H1 (h1.sub 1 rfl) (ro_open h h1)
theorem sameBatch_true {b : Ba} {s t : Sl} (hs : Recs eR H s b.recs) (ht : Recs eR H t b.recs) (k : K (.bool true) H) :
    FnH Tryz.prog 61 #[.agg #[.int .i64 b.base, .int .i64 b.epoch, .int .i64 b.pid, .int .i64 b.pe, .int .i64 b.seq, .slice s.p s.n s.c], .agg #[.int .i64 b.base, .int .i64 b.epoch, .int .i64 b.pid, .int .i64 b.pe, .int .i64 b.seq, .slice t.p t.n t.c]] H K := by
  apply logboomlaw5_sameBatch_fn
  unfold logboomlaw5_sameBatch_vc
  have h1 := hs.len
  have h2 := ht.len
  have hbig := hs.big
  refine br_f (by simp) (br_f (by simp) (br_f (by simp) (br_f (by simp) (br_f (by simp) (br_f (by rw [h1, h2]; simp) ?_)))))
  refine ⟨fun i H' => H' = H ∧ 0 ≤ i ∧ i ≤ s.n, fun i _ => ((s.n : Int) - i).toNat, ⟨rfl, Int.le_refl _, by omega⟩, ?_⟩
  rintro i H1 ⟨rfl, i0, i1⟩
  refine br_intro (fun w => ?_) (fun _ => k)
  have w := of_decide_eq_true w
  obtain ⟨q1, o1, x, x1, x2, x3⟩ := hs.at_ eRlen (by decide) i0 w
  obtain ⟨q2, o2, y, y1, y2, y3⟩ := ht.at_ eRlen (by decide) (j := i) i0 (by omega)
  rw [x2] at y2
  cases y2
  rw [wrap64_id (n := i + 1) (by omega) (by omega)]
  exact ⟨q1, o1, x1, i0, w, _, x3 0 _ rfl, _, x3 1 _ rfl, _, x3 2 _ rfl, q2, o2, y1, i0, by omega, _, y3 0 _ rfl, _, y3 1 _ rfl, _, y3 2 _ rfl, rcd_ne ⟨_, rfl, br_f rfl ⟨rfl, ⟨rfl, by omega, by omega⟩, by dsimp only; omega⟩⟩⟩
theorem same_true {bs : List Ba} {s t : Sl} (hs : Bts H s bs) (ht : Bts H t bs) (hl : bs.length ≤ 1000000) (k : K (.bool true) H) : FnH Tryz.prog 27 #[.slice s.p s.n s.c, .slice t.p t.n t.c] H K := by
  apply logboomlaw5_same_fn
  unfold logboomlaw5_same_vc
  have h1 := hs.len
  have h2 := ht.len
  refine br_f (by rw [h1, h2]; simp) ⟨fun i H' => H' = H ∧ 0 ≤ i ∧ i ≤ s.n, fun i _ => ((s.n : Int) - i).toNat, ⟨rfl, Int.le_refl _, by omega⟩, ?_⟩
  rintro i H1 ⟨rfl, i0, i1⟩
  refine br_intro (fun w => ?_) (fun _ => k)
  have w := of_decide_eq_true w
  obtain ⟨q1, o1, x, sx, x1, x2, xr, x3⟩ := hs.at_ i0 w
  obtain ⟨q2, o2, y, sy, y1, y2, yr, y3⟩ := ht.at_ (j := i) i0 (by omega)
  rw [x2] at y2
  cases y2
  rw [wrap64_id (n := i + 1) (by omega) (by omega)]
  exact ⟨q1, o1, x1, i0, w, _, x3 0 _ rfl, _, x3 1 _ rfl, _, x3 2 _ rfl, _, x3 3 _ rfl, _, x3 4 _ rfl, sx, x3 5 _ rfl, q2, o2, y1, i0, by omega, _, y3 0 _ rfl, _, y3 1 _ rfl, _, y3 2 _ rfl, _, y3 3 _ rfl, _, y3 4 _ rfl, sy, y3 5 _ rfl, sameBatch_true xr yr ⟨_, rfl, HL.Sub.refl _, br_f rfl ⟨rfl, ⟨rfl, by omega, by omega⟩, by dsimp only; omega⟩⟩⟩
theorem sameIndex_true {l : List En} {s t : Sl} (hs : Recs eE H s l) (ht : Recs eE H t l) (k : K (.bool true) H) : FnH Tryz.prog 36 #[.slice s.p s.n s.c, .slice t.p t.n t.c] H K := by
  apply logboomlaw5_sameIndex_fn
  unfold logboomlaw5_sameIndex_vc
  have h1 := hs.len
  have h2 := ht.len
  have hbig := hs.big
  refine br_f (by rw [h1, h2]; simp) ⟨fun i H' => H' = H ∧ 0 ≤ i ∧ i ≤ s.n, fun i _ => ((s.n : Int) - i).toNat, ⟨rfl, Int.le_refl _, by omega⟩, ?_⟩
  rintro i H1 ⟨rfl, i0, i1⟩
  refine br_intro (fun w => ?_) (fun _ => k)
  have w := of_decide_eq_true w
  obtain ⟨q1, o1, x, x1, x2, x3⟩ := hs.at_ eElen (by decide) i0 w
  obtain ⟨q2, o2, y, y1, y2, y3⟩ := ht.at_ eElen (by decide) (j := i) i0 (by omega)
  rw [x2] at y2
  cases y2
  rw [wrap64_id (n := i + 1) (by omega) (by omega)]
  exact ⟨q1, o1, x1, i0, w, _, x3 0 _ rfl, _, x3 1 _ rfl, _, x3 2 _ rfl, q2, o2, y1, i0, by omega, _, y3 0 _ rfl, _, y3 1 _ rfl, _, y3 2 _ rfl, entry_ne ⟨_, rfl, br_f (by simp) ⟨rfl, ⟨rfl, by omega, by omega⟩, by dsimp only; omega⟩⟩⟩
end
end Go.Proofs.YtokceblmbmajgaaGreatDoor
