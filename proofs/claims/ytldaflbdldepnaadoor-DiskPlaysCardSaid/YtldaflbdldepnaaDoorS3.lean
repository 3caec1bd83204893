/- Chapter 1: names, a crash. -/
import Derived.Test.YtldaflbdldepnaaDoorS2
namespace Go.Proofs.YtldaflbdldepnaaDoor
open Go Go.HL
set_option maxRecDepth 10000
set_option maxHeartbeats 800000

abbrev eS : ByteArray → List Value := fun s => [.string s]
theorem eSlen : ∀ x, (eS x).length = 1 := fun _ => rfl
abbrev ownS (s : Sl) (l : List ByteArray) : Chunk := own 9 1 s (l.flatMap eS)
theorem Recs.getS {H : Heap} {s : Sl} {l : List ByteArray} (h : Recs eS H s l) {j : Int} (h0 : 0 ≤ j) (h1 : j < s.n) : ∃ q o a, s.p = some ⟨q, o, none⟩ ∧ l[j.toNat]? = some a ∧ cellH H ⟨q, o + j.toNat, none⟩ = some (.string a) := by
  obtain ⟨q, o, a, e1, e2, e3⟩ := h.at_ eSlen (by decide) h0 h1
  have := e3 0 _ rfl
  rw [Nat.mul_one] at this
  exact ⟨q, o, a, e1, e2, this⟩
theorem encStr_of (s : ByteArray) : Go.Proofs.encStr s.data.toList = .string s := by simp [Go.Proofs.encStr]
section
variable {cs : List Chunk} {H : Heap} {d : Nat} {size : Int} {F : Fs} {K : Value → Heap → Prop} {n b : ByteArray}
theorem sorted_names {F fs : Fs} (hp : List.Perm fs F) (hs : SortedL ltB F) : ((((fmap fs).map Prod.fst).map fun x => x.data.toList).mergeSort fun x y => decide (x ≤ y)).map Go.Proofs.encStr = (F.map Prod.fst).flatMap eS := by
  have e1 : (fmap fs).map Prod.fst = fs.map Prod.fst := by simp [fmap, Function.comp_def]
  rw [e1]
  have e2 : ((fs.map Prod.fst).map fun x => x.data.toList).mergeSort (fun x y => decide (x ≤ y)) = ((F.map Prod.fst).map fun x => x.data.toList).mergeSort fun x y => decide (x ≤ y) :=
    mergeSort_of_perm ((hp.map Prod.fst).map _)
  rw [e2]
  have e3 : ((F.map Prod.fst).map fun x => x.data.toList).mergeSort (fun x y => decide (x ≤ y)) = (F.map Prod.fst).map fun x => x.data.toList := by
    refine List.mergeSort_of_pairwise ?_
    rw [List.map_map, List.pairwise_map]
    refine hs.imp fun {a b} hab => ?_
    simp only [Function.comp_def, decide_eq_true_eq]
    exact List.le_of_lt (ltB_iff.1 hab)
  rw [e3, List.map_map]
  have e4 : (Go.Proofs.encStr ∘ fun x : ByteArray => x.data.toList) = fun x => Value.string x := by
    funext x; exact encStr_of x
  rw [e4]
  induction F.map Prod.fst with
  | nil => rfl
  | cons a l ih => rw [List.map_cons, ih]; rfl
theorem names_spec (h : Holds (dsk d size F :: cs) H) (k : ∀ (s : Sl) H', Holds (ownS s (F.map Prod.fst) :: dsk d size F :: cs) H' → K (.slice s.p s.n s.c) H') : FnH Tryd.prog 20 #[.pointer (some ⟨d, 0, none⟩)] H K := by
  apply disk_Disk_Names_fn
  unfold disk_Disk_Names_vc
  obtain ⟨mb, fs, ⟨hB, hp⟩, h'⟩ := dsk_open.1 h
  have hnd : ((fmap fs).map Prod.fst).Nodup := by
    have e1 : (fmap fs).map Prod.fst = fs.map Prod.fst := by simp [fmap, Function.comp_def]
    rw [e1]; exact (hp.map Prod.fst).nodup_iff.2 (hB.sorted.nodup ltB_ok)
  have hlen : (fmap fs).length = F.length := by rw [List.length_map]; exact hp.length_eq
  have hf := hB.few
  refine ⟨some mb, h'.cell 0 rfl rfl, keys_spec (h'.swap) fun q H1 h1 => ⟨_, rfl, sorted_spec h1 hnd (by omega) (fun x hx => ?_) fun s H2 h2 => ⟨s, rfl, k s H2 ?_⟩⟩⟩
  · have e1 : (fmap fs).map Prod.fst = fs.map Prod.fst := by simp [fmap, Function.comp_def]
    rw [e1] at hx
    obtain ⟨p, hp', rfl⟩ := List.mem_map.1 hx
    have := namedB_size (hB.names p (hp.mem_iff.1 hp'))
    omega
  · rw [sorted_names hp hB.sorted] at h2
    have h3 : Holds (blk d (.cells #[.int .i64 size, .int .i64 (useF F), .map (some mb)] 57 (0, 0)) :: mp mb encS (fmap fs) :: ownS s (F.map Prod.fst) :: cs) H2 := (h2.pull 2 rfl).perm ((List.Perm.swap _ _ _).cons _)
    exact (dsk_open.2 ⟨mb, fs, ⟨hB, hp⟩, h3⟩).swap
/-! ### a crash -/
def crashF : List Int → Fs → Fs
  | _, [] => []
  | L, p :: F => if (p.2.1.size : Int) - p.2.2 = 0 then p :: crashF L F
    else (p.1, p.2.1.extract 0 (p.2.2 + pickI (L.headD 0) ((p.2.1.size : Int) - p.2.2 + 1)).toNat, p.2.2 + pickI (L.headD 0) ((p.2.1.size : Int) - p.2.2 + 1)) :: crashF (L.drop 1) F
theorem crashF_cons (L : List Int) (p : ByteArray × Fi) (F : Fs) : crashF L (p :: F) = if (p.2.1.size : Int) - p.2.2 = 0 then p :: crashF L F
    else (p.1, p.2.1.extract 0 (p.2.2 + pickI (L.headD 0) ((p.2.1.size : Int) - p.2.2 + 1)).toNat, p.2.2 + pickI (L.headD 0) ((p.2.1.size : Int) - p.2.2 + 1)) :: crashF (L.drop 1) F := rfl
theorem ins_mid {D R : Fs} {p : ByteArray × Fi} (hs : SortedL ltB (D ++ p :: R)) (v : Fi) : insL ltB (D ++ p :: R) p.1 v = D ++ (p.1, v) :: R := by
  induction D with
  | nil => show insL ltB (p :: R) p.1 v = _; unfold insL; rw [if_pos rfl]; rfl
  | cons x D ih =>
    obtain ⟨h1, h2⟩ := List.pairwise_cons.1 hs
    have hx : ltB x.1 p.1 = true := h1 p (by simp)
    show insL ltB (x :: (D ++ p :: R)) p.1 v = _
    unfold insL
    rw [if_neg (fun e => ltB_ok.ne hx e.symm), if_neg (by rw [ltB_ok.asymm hx]; simp), ih h2]; rfl
theorem look_mid {D R : Fs} {p : ByteArray × Fi} (hs : SortedL ltB (D ++ p :: R)) : lookL (D ++ p :: R) p.1 = some p.2 := (lookL_iff (hs.nodup ltB_ok)).2 (by simp)
theorem crash_spec {keep : Sl} {L : List Int} {c0 : Chunk} {i : Nat} (h : Holds (dsk d size F :: cs) H) (g : Gives c0 fun A => Ints A keep L) (ei : cs[i]? = some c0) (hw : ∀ n ∈ L, -9223372036854775808 ≤ n ∧ n ≤ 9223372036854775807)
    (k : ∀ H', Holds (dsk d size (crashF L F) :: cs) H' → K (.tuple #[]) H') : FnH Tryd.prog 15 #[.pointer (some ⟨d, 0, none⟩), .slice keep.p keep.n keep.c] H K := by
  apply disk_Disk_Crash_fn
  unfold disk_Disk_Crash_vc
  refine names_spec h fun s H1 h1 => ⟨s, rfl, ?_⟩
  have hlenF : s.n = F.length := by
    have := (h1.own 0 rfl).1
    rw [flat_len eSlen, List.length_map] at this; omega
  have hfew : F.length ≤ 256 := by
    obtain ⟨mb, fs, ⟨hB, hp⟩, -⟩ := dsk_open.1 h
    exact hB.few
  refine ⟨fun kp m H => ∃ D L', Holds (ownS s (F.map Prod.fst) :: dsk d size (D ++ F.drop m.toNat) :: cs) H ∧ Gives c0 (fun A => Ints A kp L') ∧ (∀ n ∈ L', -9223372036854775808 ≤ n ∧ n ≤ 9223372036854775807) ∧ 0 ≤ m ∧ m ≤ s.n ∧ crashF L F = D ++ crashF L' (F.drop m.toNat), fun _ m _ => (s.n - m).toNat,
    ⟨[], L, h1, g, hw, Int.le_refl _, by omega, rfl⟩, ?_⟩
  rintro kp m H2 ⟨D, L', h2, g2, hw2, m0, m1, hc⟩
  refine br_intro (fun q => ?_) (fun q => ?_)
  · have q := of_decide_eq_true q
    have hm : m.toNat < F.length := by omega
    have hR : Recs eS H2 s (F.map Prod.fst) := Own.recs eSlen (by decide) (h2.own 0 rfl) (by rw [List.length_map]; omega)
    obtain ⟨q1, o1, a, e1, e2, e3⟩ := Recs.getS hR m0 q
    have ed := List.drop_eq_getElem_cons hm
    generalize hp : F[m.toNat] = p at ed
    have ea : a = p.1 := by
      rw [List.getElem?_map, List.getElem?_eq_getElem hm, hp] at e2
      exact (Option.some.inj e2).symm
    subst ea
    have em : (m + 1).toNat = m.toNat + 1 := by omega
    rw [ed] at h2 hc
    obtain ⟨mb, fs, ⟨hB, hp2⟩, h3⟩ := dsk_open.1 h2.swap
    have hn := hB.sorted.nodup ltB_ok
    have hlook := look_mid hB.sorted
    have hsafe := hB.safe p (by simp)
    have huse := useF_le (F := D ++ p :: F.drop (m.toNat + 1)) (p := p) (by simp)
    have hB1 := hB.use
    have hB2 := hB.s1
    refine ⟨q1, o1, e1, m0, q, _, e3, some mb, h3.cell 0 rfl rfl, runH_lookup1 u55 kstr z59 (h3.map 1 rfl) (k := p.1) ?_⟩
    rw [getV hp2 hn]
    have eg : getF (D ++ p :: F.drop (m.toNat + 1)) p.1 = p.2 := by unfold getF; rw [hlook]; rfl
    rw [eg]
    refine ⟨_, _, rfl, ?_⟩
    rw [wrap64_id (n := (p.2.1.size : Int) - p.2.2) (by omega) (by omega), wrap64_id (n := m + 1) (by omega) (by omega)]
    rw [crashF_cons] at hc
    refine br_intro (fun q2 => ?_) (fun q2 => ?_)
    · rw [if_pos (by simpa using q2)] at hc
      refine ⟨rfl, ⟨D ++ [p], L', ?_, g2, hw2, by omega, by omega, ?_⟩, by dsimp only; omega⟩
      · rw [em, List.append_assoc]; exact h2
      · rw [em, hc]; simp
    rw [if_neg (by simpa using q2)] at hc
    have q2 : ¬ (p.2.1.size : Int) - p.2.2 = 0 := by simpa using q2
    rw [wrap64_id (n := (p.2.1.size : Int) - p.2.2 + 1) (by omega) (by omega)]
    have stepK : ∀ (x : Int) (kp2 : Sl), Gives c0 (fun A => Ints A kp2 (L'.drop 1)) → x = L'.headD 0 → (-9223372036854775808 ≤ x ∧ x ≤ 9223372036854775807) → ∀ {X : Heap → Prop}, (∀ H5, (∃ D2 L2, Holds (ownS s (F.map Prod.fst) :: dsk d size (D2 ++ F.drop (m + 1).toNat) :: cs) H5 ∧ Gives c0 (fun A => Ints A kp2 L2) ∧ (∀ n ∈ L2, -9223372036854775808 ≤ n ∧ n ≤ 9223372036854775807) ∧ 0 ≤ m + 1 ∧ m + 1 ≤ s.n ∧ crashF L F = D2 ++ crashF L2 (F.drop (m + 1).toNat)) → X H5) →
        ∀ y : Int, y = pickI x ((p.2.1.size : Int) - p.2.2 + 1) → (p.2.1.size : Int) - p.2.2 + 1 ≠ 0 ∧ 0 ≤ IntKind.wrap .i64 (p.2.2 + y) ∧ IntKind.wrap .i64 (p.2.2 + y) ≤ (p.2.1.size : Int) ∧
          FnH Tryd.prog 30 #[.pointer (some ⟨d, 0, none⟩), .string p.1, .agg #[.string (p.2.1.extract (Int.toNat 0) (Int.toNat (IntKind.wrap .i64 (p.2.2 + y)))), .int .i64 (IntKind.wrap .i64 (p.2.2 + y))]] H2 fun r H5 => r = .tuple #[] ∧ X H5 := fun x kp2 g3 hx hxw X hX y hy => by
      obtain ⟨y0, y1⟩ := pickI_in (c := x) (n := (p.2.1.size : Int) - p.2.2 + 1) (by omega) hxw.1 hxw.2
      rw [← hy] at y0 y1
      rw [wrap64_id (by omega) (by omega)]
      refine ⟨by omega, by omega, by omega, put_spec (F := D ++ p :: F.drop (m.toNat + 1)) (f := (p.2.1.extract 0 (p.2.2 + y).toNat, p.2.2 + y)) h2.swap (hB.ins (hB.names p (by simp)) (fun e => by rw [hlook] at e; cases e) ?_ ?_) fun H5 h5 => ⟨rfl, hX H5 ⟨D ++ [(p.1, p.2.1.extract 0 (p.2.2 + y).toNat, p.2.2 + y)], L'.drop 1, ?_, g3, fun n hn => hw2 n (List.mem_of_mem_drop hn), by omega, by omega, ?_⟩⟩⟩
      · rw [eg]; dsimp only; rw [ext_size (by omega)]; omega
      · dsimp only; rw [ext_size (by omega)]; omega
      · rw [ins_mid hB.sorted] at h5
        rw [em, List.append_assoc]; exact h5.swap
      · rw [em, hc, hy, hx]; simp
    have hnil : Ints H2 kp L' := g2.at_ h2 (i + 2) (by simpa using ei)
    have hkl := hnil.len
    refine br_intro (fun q3 => ?_) (fun q3 => ?_)
    · have q3 := of_decide_eq_true q3
      obtain ⟨q5, o5, f1, f2, f3, f4⟩ := hnil.at_ (j := 0) (Int.le_refl _) q3
      have hd : L'.getD (Int.toNat 0) 0 = L'.headD 0 := by cases L' <;> rfl
      have hmem : L'.headD 0 ∈ L' := by
        cases L' with
        | nil => simp at hkl; omega
        | cons x l => exact List.mem_cons_self
      have hx := hw2 _ hmem
      have g3 : Gives c0 (fun A => Ints A (kp.from_ 1 1) (L'.drop 1)) := ⟨g2.mono, fun A hA => (g2.give A hA).from_ (by decide) (by omega)⟩
      rw [hd] at f4
      refine ⟨q5, o5, f1, f2, f3, _, f4, by decide, by omega, br_intro (fun q4 => ?_) (fun q4 => ?_)⟩
      · exact stepK (L'.headD 0) (kp.from_ 1 1) g3 rfl hx (fun H5 z => ⟨rfl, z, by dsimp only; omega⟩) _ (by unfold pickI; rw [if_pos (of_decide_eq_true q4)])
      · exact stepK (L'.headD 0) (kp.from_ 1 1) g3 rfl hx (fun H5 z => ⟨rfl, z, by dsimp only; omega⟩) _ (by unfold pickI; rw [if_neg (of_decide_eq_false q4)])
    · have q3 := of_decide_eq_false q3
      have e0 : L' = [] := List.length_eq_zero_iff.1 (by omega)
      subst e0
      refine br_intro (fun q4 => by have := of_decide_eq_true q4; omega) (fun q4 => ?_)
      exact stepK 0 kp g2 rfl (by omega) (fun H5 z => ⟨rfl, z, by dsimp only; omega⟩) _ (by unfold pickI; rw [if_neg (by omega)])
  · have q := of_decide_eq_false q
    have e : F.drop m.toNat = [] := List.drop_eq_nil_of_le (by omega)
    rw [e] at hc h2
    have e2 : crashF L' [] = [] := by cases L' <;> rfl
    rw [e2, List.append_nil] at hc
    rw [List.append_nil] at h2
    rw [hc] at k
    exact k H2 h2.tail
end
end Go.Proofs.YtldaflbdldepnaaDoor
