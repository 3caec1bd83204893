/- Chapter 1: the examples; any call, any calls; two disks held against one another. -/
import Derived.Test.YtldaflbdldepnaaDoorS3
import Derived.Test.YtldaflbdldepnaaDoorV2
namespace Go.Proofs.YtldaflbdldepnaaDoor
open Go Go.HL
set_option maxRecDepth 10000
set_option maxHeartbeats 800000

theorem pick_spec {c n : Int} {H : Heap} {K : Value → Heap → Prop} (hn : n ≠ 0) (k : K (.int .i64 (pickI c n)) H) : FnH Tryd.prog 11 #[.int .i64 c, .int .i64 n] H K := by
  apply logboomlaw1_pick_fn
  exact pick_formula hn k
abbrev i64B (n : Int) : Prop := -9223372036854775808 ≤ n ∧ n ≤ 9223372036854775807
/-- A call: kind, name, text, number, numbers (their place, and what they are). -/
structure Op where
  kind : Int
  name : ByteArray
  b : ByteArray
  n : Int
  keep : Sl
  L : List Int
abbrev eOp : Op → List Value := fun o => [.int .i64 o.kind, .string o.name, .string o.b, .int .i64 o.n, .slice o.keep.p o.keep.n o.keep.c]
theorem eOplen : ∀ o, (eOp o).length = 5 := fun _ => rfl
structure OpOk (H : Heap) (o : Op) : Prop where
  kind : i64B o.kind
  b : o.b.size ≤ 9223372036854775807
  n : i64B o.n
  keep : Ints H o.keep o.L
  wf : ∀ n ∈ o.L, i64B n
section
variable {cs : List Chunk} {H : Heap} {d : Nat} {size : Int} {F : Fs} {K : Value → Heap → Prop}
/-- What a call answers, and what it leaves. -/
def callE (size : Int) (F : Fs) (o : Op) : Int × Fs :=
  if pickI o.kind 8 ≤ 2 then (appC size F o.name o.b, appM size F o.name o.b)
  else if pickI o.kind 8 = 3 then (if lookL F o.name = none then 8 else 0, synM F o.name)
  else if pickI o.kind 8 = 4 then (cutC F o.name o.n, cutM F o.name o.n)
  else if pickI o.kind 8 = 5 then (repC size F o.name o.b, repM size F o.name o.b)
  else if pickI o.kind 8 = 6 then (renC F o.name o.b, renM F o.name o.b)
  else (if lookL F o.name = none then 8 else 0, remM F o.name)
theorem calls_spec {o : Op} {H0 : Heap} (h : Holds (dsk d size F :: cs) H) (ho : OpOk H0 o) (k : ∀ H', Holds (dsk d size (callE size F o).2 :: cs) H' → K (.int .i64 (callE size F o).1) H') :
    FnH Tryd.prog 27 #[.pointer (some ⟨d, 0, none⟩), .agg #[.int .i64 o.kind, .string o.name, .string o.b, .int .i64 o.n, .slice o.keep.p o.keep.n o.keep.c]] H K := by
  apply logboomlaw1_calls_fn
  unfold logboomlaw1_calls_vc
  obtain ⟨c0, c1⟩ := pickI_in (c := o.kind) (n := 8) (by decide) ho.kind.1 ho.kind.2
  refine pick_spec (by decide) ⟨_, rfl, ?_⟩
  unfold callE at k
  generalize pickI o.kind 8 = c at *
  have ne : ∀ {x : Int}, (c == x) = false → ¬ c = x := fun h => by simpa using h
  have app : c ≤ 2 → FnH Tryd.prog 13 #[.pointer (some ⟨d, 0, none⟩), .string o.name, .string o.b] H fun r H1 => ∃ n : Int, r = .int .i64 n ∧ K (.int .i64 n) H1 := fun z => by
    rw [if_pos z] at k
    exact append_spec h ho.b fun H1 h1 => ⟨_, rfl, k H1 h1⟩
  refine br_intro (fun q => br_intro (fun _ => app (by have := eq_of_beq q; omega)) (fun z => by rw [q] at z; cases z)) (fun q => br_intro (fun q1 => br_intro (fun _ => app (by have := eq_of_beq q1; omega)) (fun z => by rw [q1] at z; cases z)) (fun q1 => br_intro (fun q2 => app (by have := eq_of_beq q2; omega)) (fun q2 => ?_)))
  rw [if_neg (by have := ne q; have := ne q1; have := ne q2; omega)] at k
  refine br_intro (fun z => ?_) (fun z => ?_)
  · rw [if_pos (eq_of_beq z)] at k
    exact sync_spec h fun H1 h1 => ⟨_, rfl, k H1 h1⟩
  rw [if_neg (ne z)] at k
  refine br_intro (fun z => ?_) (fun z => ?_)
  · rw [if_pos (eq_of_beq z)] at k
    exact cut_spec h fun H1 h1 => ⟨_, rfl, k H1 h1⟩
  rw [if_neg (ne z)] at k
  refine br_intro (fun z => ?_) (fun z => ?_)
  · rw [if_pos (eq_of_beq z)] at k
    exact replace_spec h fun H1 h1 => ⟨_, rfl, k H1 h1⟩
  rw [if_neg (ne z)] at k
  refine br_intro (fun z => ?_) (fun z => ?_)
  · rw [if_pos (eq_of_beq z)] at k
    exact rename_spec h fun H1 h1 => ⟨_, rfl, k H1 h1⟩
  rw [if_neg (ne z)] at k
  exact remove_spec h fun H1 h1 => ⟨_, rfl, k H1 h1⟩
/-- A disk behind some calls. -/
def playF (size : Int) (F : Fs) (l : List Op) : Fs := l.foldl (fun F o => (callE size F o).2) F
theorem playF_more (size : Int) (F : Fs) (l : List Op) (o : Op) : playF size F (l ++ [o]) = (callE size (playF size F l) o).2 := by simp [playF]
theorem run_spec {s : Sl} {l : List Op} {H0 : Heap} {i : Nat} (h : Holds cs H) (hr : Recs eOp H0 s l) (ho : ∀ o ∈ l, OpOk H0 o) (ei : cs[i]? = some (ro H0)) (s0 : 1 ≤ size) (s1 : size ≤ 16777216)
    (k : ∀ d H', Holds (dsk d size (playF size [] (l.take 100)) :: cs) H' → K (.pointer (some ⟨d, 0, none⟩)) H') : FnH Tryd.prog 25 #[.int .i64 size, .slice s.p s.n s.c] H K := by
  apply logboomlaw1_run_fn
  unfold logboomlaw1_run_vc
  have hn := hr.len
  have hbg := hr.big
  refine dnew_spec h (fun q => by omega) fun _ _ d H1 h1 => ⟨_, _, rfl, br_f rfl (br_f rfl ?_)⟩
  refine ⟨fun m H => 0 ≤ m ∧ m ≤ s.n ∧ m ≤ 100 ∧ Holds (dsk d size (playF size [] (l.take m.toNat)) :: cs) H, fun m _ => (s.n - m).toNat, ⟨Int.le_refl _, by omega, by decide, h1⟩, ?_⟩
  rintro m H2 ⟨m0, m1, m2, h2⟩
  have stop : (m = s.n ∨ m = 100) → K (.pointer (some ⟨d, 0, none⟩)) H2 := fun z => k d H2 (by
    have : l.take 100 = l.take m.toNat := by
      rcases z with z | z
      · rw [List.take_of_length_le (by omega), List.take_of_length_le (by omega)]
      · rw [z]; rfl
    rw [this]; exact h2)
  refine br_intro (fun q => br_intro (fun q2 => ?_) (fun q2 => stop (.inr (by have := of_decide_eq_false q2; omega)))) (fun q => stop (.inl (by have := of_decide_eq_false q; omega)))
  have q := of_decide_eq_true q
  have q2 := of_decide_eq_true q2
  obtain ⟨b, o, a, e1, e2, e3⟩ := (Recs.mono _ _ (h2.sub (i + 1) (by simpa using ei)) hr).at_ eOplen (by decide) m0 q
  rw [wrap64_id (n := m + 1) (by omega) (by omega)]
  refine ⟨b, o, e1, m0, q, _, e3 0 _ rfl, _, e3 1 _ rfl, _, e3 2 _ rfl, _, e3 3 _ rfl, _, e3 4 _ rfl, calls_spec h2 (ho a (List.mem_of_getElem? e2)) fun H3 h3 => ⟨_, rfl, rfl, ⟨by omega, by omega, by omega, ?_⟩, by dsimp only; omega⟩⟩
  rw [take_step m0 e2, playF_more]; exact h3
/-- A disk held against one with the same files. -/
theorem one_spec {a b : Nat} (h : Holds (dsk a size F :: dsk b size F :: cs) H) (k : ∀ H', Holds (dsk a size F :: dsk b size F :: cs) H' → K (.bool true) H') : FnH Tryd.prog 28 #[.pointer (some ⟨a, 0, none⟩), .pointer (some ⟨b, 0, none⟩)] H K := by
  apply logboomlaw1_one_fn
  unfold logboomlaw1_one_vc
  have hfew : F.length ≤ 256 := by
    obtain ⟨mb, fs, ⟨hB, hp⟩, -⟩ := dsk_open.1 h
    exact hB.few
  refine names_spec h fun s1 H1 h1 => ⟨s1, rfl, ?_⟩
  refine names_spec (h1.pull 2 rfl) fun s2 H2 h2 => ⟨s2, rfl, ?_⟩
  have h2 : Holds (ownS s2 (F.map Prod.fst) :: dsk b size F :: ownS s1 (F.map Prod.fst) :: dsk a size F :: cs) H2 := h2
  have n1 : s1.n = F.length := by
    have := (h2.own 2 rfl).1
    rw [flat_len eSlen, List.length_map] at this; omega
  have n2 : s2.n = F.length := by
    have := (h2.own 0 rfl).1
    rw [flat_len eSlen, List.length_map] at this; omega
  refine br_f (by rw [n1, n2]; simp) (free_spec (i := 3) h2 rfl ⟨_, rfl, free_spec (i := 1) h2 rfl ⟨_, rfl, br_f (by simp) ?_⟩⟩)
  have fin : K (.bool true) H2 := k H2 h2.tail.swap.tail.swap
  refine ⟨fun m H => H = H2 ∧ 0 ≤ m ∧ m ≤ s1.n, fun m _ => (s1.n - m).toNat, ⟨rfl, Int.le_refl _, by omega⟩, ?_⟩
  rintro m H3 ⟨rfl, m0, m1⟩
  refine br_intro (fun q => ?_) (fun q => fin)
  have q := of_decide_eq_true q
  have hR1 : Recs eS H3 s1 (F.map Prod.fst) := Own.recs eSlen (by decide) (h2.own 2 rfl) (by rw [List.length_map]; omega)
  have hR2 : Recs eS H3 s2 (F.map Prod.fst) := Own.recs eSlen (by decide) (h2.own 0 rfl) (by rw [List.length_map]; omega)
  obtain ⟨q1, o1, x, e1, e2, e3⟩ := Recs.getS hR1 m0 q
  obtain ⟨q2, o2, y, f1, f2, f3⟩ := Recs.getS hR2 m0 (by omega)
  obtain rfl : y = x := by rw [e2] at f2; exact (Option.some.inj f2).symm
  refine ⟨q1, o1, e1, m0, q, _, e3, read_spec (i := 3) h2 rfl ⟨_, _, rfl, q2, o2, f1, m0, by omega, _, f3, read_spec (i := 1) h2 rfl ⟨_, _, rfl, q1, o1, e1, m0, q, _, e3, q2, o2, f1, m0, by omega, _, f3, ?_⟩⟩⟩
  rw [str_eq, str_eq]
  refine br_f (by simp) (br_f (by simp) ⟨q1, o1, e1, m0, q, _, e3, q2, o2, f1, m0, by omega, _, f3, synced_spec (i := 3) h2 rfl ⟨_, rfl, HL.Sub.refl _, synced_spec (i := 1) h2 rfl ⟨_, rfl, HL.Sub.refl _, br_f (by simp) ?_⟩⟩⟩)
  rw [wrap64_id (n := m + 1) (by omega) (by omega)]
  exact ⟨rfl, ⟨rfl, by omega, by omega⟩, by dsimp only; omega⟩
/-! ### the examples -/
abbrev tA : ByteArray := ⟨#[97]⟩
abbrev tHello : ByteArray := ⟨#[104, 101, 108, 108, 111]⟩
abbrev tHello1 : ByteArray := ⟨#[104, 101, 108, 108, 111, 49]⟩
abbrev tHello12 : ByteArray := ⟨#[104, 101, 108, 108, 111, 49, 50]⟩
abbrev t12 : ByteArray := ⟨#[49, 50]⟩
theorem shown_spec (h : Holds cs H) (k : ∀ H', Holds cs H' → K (.bool true) H') : FnH Tryd.prog 10 #[] H K := by
  apply logboomlaw1_shown_fn
  unfold logboomlaw1_shown_vc
  refine dnew_spec h (fun q => by omega) fun _ _ d H1 h1 => ⟨_, _, rfl, br_f rfl (br_f rfl ?_)⟩
  refine append_spec (n := tA) (b := tHello) h1 (by decide) fun H2 h2 => ?_
  have a1 : appC 10 [] tA tHello = 0 := by kernel_rfl
  have a2 : appM 10 [] tA tHello = [(tA, tHello, 0)] := by kernel_rfl
  rw [a1]; rw [a2] at h2
  refine ⟨_, rfl, br_f rfl (sync_spec (n := tA) h2 fun H3 h3 => ?_)⟩
  have b1 : (if lookL [(tA, ((tHello, 0) : Fi))] tA = none then (8 : Int) else 0) = 0 := by kernel_rfl
  have b2 : synM [(tA, tHello, 0)] tA = [(tA, tHello, 5)] := by kernel_rfl
  rw [b1]; rw [b2] at h3
  refine ⟨_, rfl, br_f rfl (append_spec (n := tA) (b := t12) h3 (by decide) fun H4 h4 => ?_)⟩
  have c1 : appC 10 [(tA, tHello, 5)] tA t12 = 0 := by kernel_rfl
  have c2 : appM 10 [(tA, tHello, 5)] tA t12 = [(tA, tHello12, 5)] := by kernel_rfl
  rw [c1]; rw [c2] at h4
  refine ⟨_, rfl, br_f rfl (dclone_spec h4 fun d2 H5 h5 _ => ⟨_, rfl, br_f rfl ?_⟩)⟩
  refine crash_spec (keep := ⟨none, 0, 0⟩) (L := []) (i := 0) h5.swap (c0 := dsk d2 10 [(tA, tHello12, 5)]) ⟨dsk_mono, fun A _ => Ints.nil A⟩ rfl (by simp) fun H6 h6 => ⟨rfl, h6.new fun q H7 h7 => ?_⟩
  have e6 : crashF [] [(tA, tHello12, 5)] = [(tA, tHello, 5)] := by kernel_rfl
  rw [e6] at h7
  have h7 : Holds (dsk d2 10 [(tA, tHello12, 5)] :: blk q (.cells #[.int .i64 4] 3 (0, 0)) :: dsk d 10 [(tA, tHello, 5)] :: cs) H7 := h7.pull 2 rfl
  refine crash_spec (keep := ⟨some ⟨q, 0, none⟩, 1, 1⟩) (L := [4]) (i := 0) h7 (c0 := blk q (.cells #[.int .i64 4] 3 (0, 0))) ⟨blk_mono _ _, fun A hA => ⟨rfl, by show (1 : Nat) ≤ _; decide, Nat.le_refl _, CellsAt.block hA fun i hi => by simp at hi; subst hi; rfl⟩⟩ rfl (by simp) fun H8 h8 => ⟨rfl, ?_⟩
  have e8 : crashF [4] [(tA, tHello12, 5)] = [(tA, tHello1, 6)] := by kernel_rfl
  rw [e8] at h8
  refine read_spec (n := tA) (i := 2) h8 rfl ?_
  have r1 : getF [(tA, tHello, 5)] tA = (tHello, 5) := by kernel_rfl
  have r2 : (if lookL [(tA, ((tHello, 5) : Fi))] tA = none then (8 : Int) else 0) = 0 := by kernel_rfl
  rw [r1, r2]
  refine ⟨_, _, rfl, read_spec (n := tA) (i := 0) h8 rfl ?_⟩
  have r3 : getF [(tA, tHello1, 6)] tA = (tHello1, 6) := by kernel_rfl
  have r4 : (if lookL [(tA, ((tHello1, 6) : Fi))] tA = none then (8 : Int) else 0) = 0 := by kernel_rfl
  rw [r3, r4]
  refine ⟨_, _, rfl, dnew_spec h8 (fun q => by omega) fun _ _ d3 H9 h9 => ⟨_, _, rfl, ?_⟩⟩
  refine br_t (by rw [str_eq]; simp) (br_t rfl (br_t (by rw [str_eq]; simp) (br_t rfl (br_t rfl (br_t rfl ?_)))))
  refine append_spec (n := tA) (b := tHello) h9 (by decide) fun H10 h10 => ?_
  have g1 : appC 3 [] tA tHello = 7 := by kernel_rfl
  have g2 : appM 3 [] tA tHello = [(tA, ⟨#[104, 101, 108]⟩, 0)] := by kernel_rfl
  rw [g1]; rw [g2] at h10
  refine ⟨_, rfl, br_t rfl (size_spec (n := tA) (i := 0) h10 rfl ?_)⟩
  have g3 : getF [(tA, ⟨#[104, 101, 108]⟩, 0)] tA = (⟨#[104, 101, 108]⟩, 0) := by kernel_rfl
  rw [g3]
  refine ⟨_, rfl, br_t rfl (synced_spec (n := tA) (i := 0) h10 rfl ?_)⟩
  rw [g3]
  exact ⟨_, rfl, k H10 h10.tail.tail.tail.tail⟩
end
end Go.Proofs.YtldaflbdldepnaaDoor
