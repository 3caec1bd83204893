/- Chapter 1: the law DiskRoom, walked. -/
import Derived.Test.YtldaflbdldepnaaDoorLTwice
namespace Go.Proofs.YtldaflbdldepnaaDoor
open Go Go.HL
set_option maxRecDepth 10000
set_option maxHeartbeats 1600000

theorem room_law {H0 : Heap} {size : Int} {s : Sl} {l : List Op} {K : Value → Heap → Prop} (hb : i64B size) (hr : Recs eOp H0 s l) (ho : ∀ o ∈ l, OpOk H0 o)
    (k : ∀ H', HL.Sub H0 H' → K (.bool true) H') : FnH Tryd.prog 6 #[.int .i64 size, .slice s.p s.n s.c] H0 K := by
  apply logboomlaw1_DiskRoom_fn
  unfold logboomlaw1_DiskRoom_vc
  obtain ⟨w0, w1, w2⟩ := size_in (m := 2000) hb (by decide) (by decide)
  refine shown_spec (Holds.whole H0) fun H1 h1 => ⟨true, rfl, pick_spec (by decide) ⟨_, rfl, ?_⟩⟩
  rw [w0]
  refine run_spec (i := 0) h1 hr ho rfl w1 w2 fun d H2 h2 => ⟨_, rfl, br_f rfl (br_f rfl ?_)⟩
  generalize hF : playF (1 + pickI size 2000) [] (l.take 100) = F at *
  generalize hsz : 1 + pickI size 2000 = sz at *
  obtain ⟨mb, fs, ⟨hB, hp⟩, -⟩ := dsk_open.1 h2
  have hfew := hB.few
  have huse := hB.use
  refine names_spec h2 fun ns H3 h3 => ⟨ns, rfl, ?_⟩
  have hn : ns.n = F.length := by
    have := (h3.own 0 rfl).1
    rw [flat_len eSlen, List.length_map] at this; omega
  refine ⟨fun sum i H => H = H3 ∧ 0 ≤ i ∧ i ≤ ns.n ∧ sum = useF (F.take i.toNat), fun _ i _ => (ns.n - i).toNat, ⟨rfl, Int.le_refl _, by omega, rfl⟩, ?_⟩
  rintro sum i H4 ⟨rfl, i0, i1, hs⟩
  have hsum : useF F = useF (F.take i.toNat) + useF (F.drop i.toNat) := by
    have : useF (F.take i.toNat ++ F.drop i.toNat) = useF (F.take i.toNat) + useF (F.drop i.toNat) := useF_append _ _
    rw [List.take_append_drop] at this; exact this
  have hd0 := useF_nonneg (F.drop i.toNat)
  have ht0 := useF_nonneg (F.take i.toNat)
  refine br_intro (fun q => ?_) (fun q => ?_)
  · have q := of_decide_eq_true q
    have hi : i.toNat < F.length := by omega
    have hR : Recs eS H4 ns (F.map Prod.fst) := Own.recs eSlen (by decide) (h3.own 0 rfl) (by rw [List.length_map]; omega)
    obtain ⟨q1, o1, a, e1, e2, e3⟩ := Recs.getS hR i0 q
    have ea : F[i.toNat].1 = a := by
      rw [List.getElem?_map, List.getElem?_eq_getElem hi] at e2
      exact Option.some.inj e2
    have hmem : F[i.toNat] ∈ F := List.getElem_mem hi
    have hlook : lookL F a = some F[i.toNat].2 := (lookL_iff (hB.sorted.nodup ltB_ok)).2 (by rw [← ea]; exact hmem)
    have eg : getF F a = F[i.toNat].2 := by unfold getF; rw [hlook]; rfl
    have hsafe := hB.safe _ hmem
    have hle := useF_le hmem
    have est : useF (F.take (i + 1).toNat) = useF (F.take i.toNat) + F[i.toNat].2.1.size := by
      have := take_step (l := F) i0 (List.getElem?_eq_getElem hi)
      rw [this, useF_append, useF_cons]
      have : useF [] = 0 := rfl
      omega
    have hs2 : useF (F.take (i + 1).toNat) ≤ useF F := by
      have : useF (F.take (i + 1).toNat ++ F.drop (i + 1).toNat) = useF (F.take (i + 1).toNat) + useF (F.drop (i + 1).toNat) := useF_append _ _
      rw [List.take_append_drop] at this
      have := useF_nonneg (F.drop (i + 1).toNat)
      omega
    refine ⟨q1, o1, e1, i0, q, _, e3, read_spec (n := a) (i := 1) h3 rfl ?_⟩
    rw [if_neg (by rw [hlook]; simp), eg]
    refine ⟨_, _, rfl, br_f rfl ⟨q1, o1, e1, i0, q, _, e3, size_spec (n := a) (i := 1) h3 rfl ?_⟩⟩
    rw [eg]
    refine ⟨_, rfl, HL.Sub.refl _, br_f (by simp) ⟨q1, o1, e1, i0, q, _, e3, synced_spec (n := a) (i := 1) h3 rfl ?_⟩⟩
    rw [eg]
    refine ⟨_, rfl, HL.Sub.refl _, br_f (decide_eq_false (by omega)) ⟨q1, o1, e1, i0, q, _, e3, synced_spec (n := a) (i := 1) h3 rfl ?_⟩⟩
    rw [eg]
    refine ⟨_, rfl, HL.Sub.refl _, br_f (decide_eq_false (by omega)) ?_⟩
    rw [wrap64_id (n := i + 1) (by omega) (by omega), wrap64_id (n := sum + (F[i.toNat].2.1.size : Int)) (by omega) (by omega)]
    refine br_intro (fun z => ?_) (fun z => ⟨rfl, ⟨rfl, by omega, by omega, by omega⟩, by dsimp only; omega⟩)
    have z := of_decide_eq_true z
    rw [wrap64_id (n := i - 1) (by omega) (by omega)]
    obtain ⟨q2, o2, b, f1, f2, f3⟩ := Recs.getS hR (j := i - 1) (by omega) (by omega)
    have hj : (i - 1).toNat < F.length := by omega
    have eb : F[(i - 1).toNat].1 = b := by
      rw [List.getElem?_map, List.getElem?_eq_getElem hj] at f2
      exact Option.some.inj f2
    have hlt : ltB b a = true := by
      rw [← ea, ← eb]
      exact (List.pairwise_iff_getElem.1 hB.sorted) _ _ hj hi (by omega)
    refine ⟨q1, o1, e1, i0, q, _, e3, q2, o2, f1, by omega, by omega, _, f3, br_f ?_ ⟨rfl, ⟨rfl, by omega, by omega, by omega⟩, by dsimp only; omega⟩⟩
    have h1 : Op.bytesLess a.toList b.toList = false := ltB_ok.asymm hlt
    rw [h1, str_eq, decide_eq_false (fun e => ltB_ok.ne hlt e.symm)]; rfl
  · have q := of_decide_eq_false q
    have e : sum = useF F := by rw [hs, List.take_of_length_le (by omega)]
    rw [e]
    refine br_t (decide_eq_true (by omega)) (free_spec (i := 1) h3 rfl ⟨_, rfl, ?_⟩)
    have hu := useF_nonneg F
    rw [wrap64_id (n := sz - useF F) (by omega) (by omega)]
    simp only [beq_self_eq_true]
    exact k H4 (h3.sub 2 rfl)
end Go.Proofs.YtldaflbdldepnaaDoor
