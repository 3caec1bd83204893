/- Chapter 1: a call on both disks; the two disks held against one another. -/
import Derived.Test.YtldaflbdldepnaaDoorS8
import Derived.Test.YtldaflbdldepnaaDoorV4
import Derived.Test.YtldaflbdldepnaaDoorLTwice
namespace Go.Proofs.YtldaflbdldepnaaDoor
open Go Go.HL
set_option maxRecDepth 10000
set_option maxHeartbeats 3200000

section
variable {cs : List Chunk} {H : Heap} {d r : Nat} {size : Int} {F : Fs} {K : Value → Heap → Prop}
theorem does_spec {o : Op} {H0 : Heap} {i0 : Nat} (h : Holds (dsk d size F :: rdsk r size F :: cs) H) (ho : OpOk H0 o) (ei : cs[i0]? = some (ro H0)) (k : ∀ F' H', Holds (dsk d size F' :: rdsk r size F' :: cs) H' → K (.bool true) H') :
    FnH Tryd.prog 22 #[.pointer (some ⟨d, 0, none⟩), .pointer (some ⟨r, 0, none⟩), .agg #[.int .i64 o.kind, .string o.name, .string o.b, .int .i64 o.n, .slice o.keep.p o.keep.n o.keep.c]] H K := by
  apply logboomlaw1_does_fn
  unfold logboomlaw1_does_vc
  obtain ⟨c0, c1⟩ := pickI_in (c := o.kind) (n := 10) (by decide) ho.kind.1 ho.kind.2
  refine pick_spec (by decide) ⟨_, rfl, ?_⟩
  generalize pickI o.kind 10 = c at *
  have kt : ∀ (x : Int) F' H', Holds (rdsk r size F' :: dsk d size F' :: cs) H' → K (.bool (x == x)) H' := fun x F' H' g => by
    have e : (x == x) = true := beq_self_eq_true x
    rw [e]; exact k F' H' g.swap
  have z : c = 0 ∨ c = 1 ∨ c = 2 ∨ c = 3 ∨ c = 4 ∨ c = 5 ∨ c = 6 ∨ c = 7 ∨ c = 8 ∨ c = 9 := by omega
  have hh := h.swap
  rcases z with rfl | rfl | rfl | rfl | rfl | rfl | rfl | rfl | rfl | rfl
  iterate 3 focus
    have B : ∀ H2, Holds (rdsk r size F :: dsk d size (appM size F o.name o.b) :: cs) H2 → FnH Tryd.prog 33 #[.pointer (some ⟨r, 0, none⟩), .string o.name, .string o.b] H2 fun v H3 => ∃ n : Int, v = .int .i64 n ∧ K (.bool (appC size F o.name o.b == n)) H3 := fun H2 h2 =>
      rappend_spec h2 fun H3 h3 => ⟨_, rfl, kt _ _ H3 h3⟩
    have A1 : FnH Tryd.prog 13 #[.pointer (some ⟨d, 0, none⟩), .string o.name, .string o.b] H fun v H2 => ∃ n : Int, v = .int .i64 n ∧ FnH Tryd.prog 33 #[.pointer (some ⟨r, 0, none⟩), .string o.name, .string o.b] H2 fun v H3 => ∃ n2 : Int, v = .int .i64 n2 ∧ K (.bool (n == n2)) H3 :=
      append_spec h ho.b fun H2 h2 => ⟨_, rfl, B H2 h2.swap⟩
    have A2 : FnH Tryd.prog 13 #[.pointer (some ⟨d, 0, none⟩), .string o.name, .string o.b] H fun v H2 => ∃ n : Int, v = .int .i64 n ∧ (FnH Tryd.prog 33 #[.pointer (some ⟨r, 0, none⟩), .string o.name, .string o.b] H2 fun v H3 => ∃ n2 : Int, v = .int .i64 n2 ∧ K (.bool (n == n2)) H3) ∧ FnH Tryd.prog 33 #[.pointer (some ⟨r, 0, none⟩), .string o.name, .string o.b] H2 fun v H3 => ∃ n2 : Int, v = .int .i64 n2 ∧ K (.bool (n == n2)) H3 :=
      append_spec h ho.b fun H2 h2 => ⟨_, rfl, B H2 h2.swap, B H2 h2.swap⟩
    clear kt hh B
    repeat' (first | refine br_t rfl ?_ | refine br_f rfl ?_ | exact A1 | exact A2 | exact HL.Sub.refl _ | refine And.intro ?_ ?_)
  iterate 2 focus
    have A1 : FnH Tryd.prog 14 #[.pointer (some ⟨d, 0, none⟩), .string o.name] H fun v H2 => ∃ n : Int, v = .int .i64 n ∧ FnH Tryd.prog 34 #[.pointer (some ⟨r, 0, none⟩), .string o.name] H2 fun v H3 => ∃ n2 : Int, v = .int .i64 n2 ∧ K (.bool (n == n2)) H3 :=
      sync_spec h fun H2 h2 => ⟨_, rfl, rsync_spec h2.swap fun H3 h3 => ⟨_, rfl, kt _ _ H3 h3⟩⟩
    clear kt hh
    repeat' (first | refine br_t rfl ?_ | refine br_f rfl ?_ | exact A1 | exact HL.Sub.refl _ | refine And.intro ?_ ?_)
  · have B : ∀ H2, Holds (rdsk r size F :: dsk d size (cutM F o.name o.n) :: cs) H2 → FnH Tryd.prog 36 #[.pointer (some ⟨r, 0, none⟩), .string o.name, .int .i64 o.n] H2 fun v H3 => ∃ n : Int, v = .int .i64 n ∧ K (.bool (cutC F o.name o.n == n)) H3 := fun H2 h2 =>
      rcut_spec h2 fun H3 h3 => ⟨_, rfl, kt _ _ H3 h3⟩
    have A1 : FnH Tryd.prog 35 #[.pointer (some ⟨d, 0, none⟩), .string o.name, .int .i64 o.n] H fun v H2 => ∃ n : Int, v = .int .i64 n ∧ FnH Tryd.prog 36 #[.pointer (some ⟨r, 0, none⟩), .string o.name, .int .i64 o.n] H2 fun v H3 => ∃ n2 : Int, v = .int .i64 n2 ∧ K (.bool (n == n2)) H3 :=
      cut_spec h fun H2 h2 => ⟨_, rfl, B H2 h2.swap⟩
    have A2 : FnH Tryd.prog 35 #[.pointer (some ⟨d, 0, none⟩), .string o.name, .int .i64 o.n] H fun v H2 => ∃ n : Int, v = .int .i64 n ∧ (FnH Tryd.prog 36 #[.pointer (some ⟨r, 0, none⟩), .string o.name, .int .i64 o.n] H2 fun v H3 => ∃ n2 : Int, v = .int .i64 n2 ∧ K (.bool (n == n2)) H3) ∧ FnH Tryd.prog 36 #[.pointer (some ⟨r, 0, none⟩), .string o.name, .int .i64 o.n] H2 fun v H3 => ∃ n2 : Int, v = .int .i64 n2 ∧ K (.bool (n == n2)) H3 :=
      cut_spec h fun H2 h2 => ⟨_, rfl, B H2 h2.swap, B H2 h2.swap⟩
    clear kt hh B
    repeat' (first | refine br_t rfl ?_ | refine br_f rfl ?_ | exact A1 | exact A2 | exact HL.Sub.refl _ | refine And.intro ?_ ?_)
  · have B : ∀ H2, Holds (rdsk r size F :: dsk d size (repM size F o.name o.b) :: cs) H2 → FnH Tryd.prog 37 #[.pointer (some ⟨r, 0, none⟩), .string o.name, .string o.b] H2 fun v H3 => ∃ n : Int, v = .int .i64 n ∧ K (.bool (repC size F o.name o.b == n)) H3 := fun H2 h2 =>
      rreplace_spec h2 fun H3 h3 => ⟨_, rfl, kt _ _ H3 h3⟩
    have A1 : FnH Tryd.prog 19 #[.pointer (some ⟨d, 0, none⟩), .string o.name, .string o.b] H fun v H2 => ∃ n : Int, v = .int .i64 n ∧ FnH Tryd.prog 37 #[.pointer (some ⟨r, 0, none⟩), .string o.name, .string o.b] H2 fun v H3 => ∃ n2 : Int, v = .int .i64 n2 ∧ K (.bool (n == n2)) H3 :=
      replace_spec h fun H2 h2 => ⟨_, rfl, B H2 h2.swap⟩
    have A2 : FnH Tryd.prog 19 #[.pointer (some ⟨d, 0, none⟩), .string o.name, .string o.b] H fun v H2 => ∃ n : Int, v = .int .i64 n ∧ (FnH Tryd.prog 37 #[.pointer (some ⟨r, 0, none⟩), .string o.name, .string o.b] H2 fun v H3 => ∃ n2 : Int, v = .int .i64 n2 ∧ K (.bool (n == n2)) H3) ∧ FnH Tryd.prog 37 #[.pointer (some ⟨r, 0, none⟩), .string o.name, .string o.b] H2 fun v H3 => ∃ n2 : Int, v = .int .i64 n2 ∧ K (.bool (n == n2)) H3 :=
      replace_spec h fun H2 h2 => ⟨_, rfl, B H2 h2.swap, B H2 h2.swap⟩
    clear kt hh B
    repeat' (first | refine br_t rfl ?_ | refine br_f rfl ?_ | exact A1 | exact A2 | exact HL.Sub.refl _ | refine And.intro ?_ ?_)
  · have B : ∀ H2, Holds (rdsk r size F :: dsk d size (renM F o.name o.b) :: cs) H2 → FnH Tryd.prog 39 #[.pointer (some ⟨r, 0, none⟩), .string o.name, .string o.b] H2 fun v H3 => ∃ n : Int, v = .int .i64 n ∧ K (.bool (renC F o.name o.b == n)) H3 := fun H2 h2 =>
      rrename_spec h2 fun H3 h3 => ⟨_, rfl, kt _ _ H3 h3⟩
    have A1 : FnH Tryd.prog 38 #[.pointer (some ⟨d, 0, none⟩), .string o.name, .string o.b] H fun v H2 => ∃ n : Int, v = .int .i64 n ∧ FnH Tryd.prog 39 #[.pointer (some ⟨r, 0, none⟩), .string o.name, .string o.b] H2 fun v H3 => ∃ n2 : Int, v = .int .i64 n2 ∧ K (.bool (n == n2)) H3 :=
      rename_spec h fun H2 h2 => ⟨_, rfl, B H2 h2.swap⟩
    have A2 : FnH Tryd.prog 38 #[.pointer (some ⟨d, 0, none⟩), .string o.name, .string o.b] H fun v H2 => ∃ n : Int, v = .int .i64 n ∧ (FnH Tryd.prog 39 #[.pointer (some ⟨r, 0, none⟩), .string o.name, .string o.b] H2 fun v H3 => ∃ n2 : Int, v = .int .i64 n2 ∧ K (.bool (n == n2)) H3) ∧ FnH Tryd.prog 39 #[.pointer (some ⟨r, 0, none⟩), .string o.name, .string o.b] H2 fun v H3 => ∃ n2 : Int, v = .int .i64 n2 ∧ K (.bool (n == n2)) H3 :=
      rename_spec h fun H2 h2 => ⟨_, rfl, B H2 h2.swap, B H2 h2.swap⟩
    clear kt hh B
    repeat' (first | refine br_t rfl ?_ | refine br_f rfl ?_ | exact A1 | exact A2 | exact HL.Sub.refl _ | refine And.intro ?_ ?_)
  · have A1 : FnH Tryd.prog 40 #[.pointer (some ⟨d, 0, none⟩), .string o.name] H fun v H2 => ∃ n : Int, v = .int .i64 n ∧ FnH Tryd.prog 41 #[.pointer (some ⟨r, 0, none⟩), .string o.name] H2 fun v H3 => ∃ n2 : Int, v = .int .i64 n2 ∧ K (.bool (n == n2)) H3 :=
      remove_spec h fun H2 h2 => ⟨_, rfl, rremove_spec h2.swap fun H3 h3 => ⟨_, rfl, kt _ _ H3 h3⟩⟩
    iterate 8 first | refine br_t rfl ?_ | refine br_f rfl ?_
    refine ⟨by decide, br_intro (fun q => ⟨A1, HL.Sub.refl _, A1⟩) (fun q => ?_)⟩
    refine read_spec (i := 0) h rfl ⟨_, _, rfl, rread_spec (j := 1) h rfl ⟨_, _, rfl, br_t (by simp) (br_t (by simp) ?_)⟩⟩
    exact size_spec (i := 0) h rfl ⟨_, rfl, HL.Sub.refl _, rsize_spec (j := 1) h rfl ⟨_, rfl, HL.Sub.refl _, br_t (by simp) (synced_spec (i := 0) h rfl ⟨_, rfl, HL.Sub.refl _, rsynced_spec (j := 1) h rfl ⟨_, rfl, HL.Sub.refl _, kt _ F H hh⟩⟩)⟩⟩
  · iterate 8 first | refine br_t rfl ?_ | refine br_f rfl ?_
    exact crash_spec (i := i0 + 1) h ⟨ro_mono H0, fun A hA => ho.keep.sub hA⟩ (by simpa using ei) ho.wf fun H2 h2 => ⟨rfl, rcrash_spec (i0 := i0 + 1) h2.swap ⟨ro_mono H0, fun A hA => ho.keep.sub hA⟩ (by simpa using ei) ho.wf fun H3 h3 => ⟨rfl, k _ H3 h3.swap⟩⟩
theorem alike_spec (h : Holds (dsk d size F :: rdsk r size F :: cs) H) (k : ∀ H', Holds (dsk d size F :: rdsk r size F :: cs) H' → K (.bool true) H') : FnH Tryd.prog 23 #[.pointer (some ⟨d, 0, none⟩), .pointer (some ⟨r, 0, none⟩)] H K := by
  apply logboomlaw1_alike_fn
  unfold logboomlaw1_alike_vc
  have hfew : F.length ≤ 256 := by
    obtain ⟨s, hB, -⟩ := rdsk_open.1 h.swap
    exact hB.few
  refine names_spec h fun s1 H1 h1 => ⟨s1, rfl, ?_⟩
  have n1 : s1.n = F.length := by
    have := (h1.own 0 rfl).1
    rw [flat_len eSlen, List.length_map] at this; omega
  obtain ⟨s, hB, hh⟩ := rdsk_open.1 (h1.pull 2 rfl)
  have hR : Recs eF H1 s F := rdsk_recs hB hh (i := 1) rfl
  have hl := hR.len
  have fin : K (.bool true) H1 := k H1 h1.tail
  refine ⟨s, hh.cell 0 rfl rfl, br_f (by rw [n1, hl]; simp) (free_spec (i := 1) h1 rfl ⟨_, rfl, rfree_spec (i := 2) h1 rfl ⟨_, rfl, br_f (by simp) ?_⟩⟩)⟩
  refine ⟨fun m H => H = H1 ∧ 0 ≤ m ∧ m ≤ s1.n, fun m _ => (s1.n - m).toNat, ⟨rfl, Int.le_refl _, by omega⟩, ?_⟩
  rintro m H3 ⟨rfl, m0, m1⟩
  refine br_intro (fun q => ?_) (fun q => fin)
  have q := of_decide_eq_true q
  have hR1 : Recs eS H3 s1 (F.map Prod.fst) := Own.recs eSlen (by decide) (h1.own 0 rfl) (by rw [List.length_map]; omega)
  obtain ⟨q1, o1, x, e1, e2, e3⟩ := Recs.getS hR1 m0 q
  obtain ⟨i, rfl⟩ := Int.eq_ofNat_of_zero_le m0
  have hi : ((i : Int)).toNat = i := by omega
  have hlt : i < F.length := by omega
  obtain ⟨p, hp⟩ : ∃ p, F[i]? = some p := ⟨_, List.getElem?_eq_getElem hlt⟩
  have ex : x = p.1 := by
    rw [hi, List.getElem?_map, hp] at e2
    exact (Option.some.inj e2).symm
  subst ex
  obtain ⟨q2, o2, f1, f2, f3, f4, f5⟩ := rcells (n := p.1) (f := p.2) hR hp
  have hlook : lookL F p.1 = some p.2 := (lookL_iff (hB.sorted.nodup ltB_ok)).2 (List.mem_of_getElem? hp)
  have eg : getF F p.1 = p.2 := by unfold getF; rw [hlook]; rfl
  refine ⟨s, hh.cell 0 rfl rfl, q2, o2, f1, by omega, f2, _, f3, _, f4, _, f5, read_spec (i := 1) h1 rfl ⟨_, _, rfl, q1, o1, e1, m0, q, _, e3, ?_⟩⟩
  rw [eg, if_neg (fun z => by rw [hlook] at z; cases z)]
  refine br_f (by simp) (br_f (by simp) (br_f (by simp) (size_spec (i := 1) h1 rfl ⟨_, rfl, HL.Sub.refl _, ?_⟩)))
  rw [eg]
  refine br_f (by simp) (synced_spec (i := 1) h1 rfl ⟨_, rfl, HL.Sub.refl _, ?_⟩)
  rw [eg, wrap64_id (n := (i : Int) + 1) (by omega) (by omega)]
  exact br_f (by simp) ⟨rfl, ⟨rfl, by omega, by omega⟩, by dsimp only; omega⟩
end
theorem plays_spec {H0 : Heap} {size : Int} {s : Sl} {l : List Op} {K : Value → Heap → Prop} (hr : Recs eOp H0 s l) (ho : ∀ o ∈ l, OpOk H0 o)
    (k : ∀ H', HL.Sub H0 H' → K (.bool true) H') : FnH Tryd.prog 5 #[.int .i64 size, .slice s.p s.n s.c] H0 K := by
  apply logboomlaw1_DiskPlays_fn
  unfold logboomlaw1_DiskPlays_vc
  have hn := hr.len
  have hbg := hr.big
  refine shown_spec (Holds.whole H0) fun H1 h1 => ⟨true, rfl, dnew_spec h1 (fun q => ?_) fun s0 s1 d H2 h2 => ?_⟩
  · refine ⟨_, _, rfl, rnew_spec h1 (fun _ => ⟨_, rfl, br_t rfl (br_t rfl (br_t rfl (k H1 (h1.sub 0 rfl))))⟩) fun _ _ r H3 h3 => by omega⟩
  refine ⟨_, _, rfl, rnew_spec h2 (fun _ => by omega) fun _ _ r H3 h3 => ⟨_, rfl, br_f rfl (br_f rfl (br_f rfl (br_f rfl ?_)))⟩⟩
  refine ⟨fun m H => 0 ≤ m ∧ m ≤ s.n ∧ ∃ F, Holds (dsk d size F :: rdsk r size F :: [ro H0]) H, fun m _ => (s.n - m).toNat, ⟨Int.le_refl _, by omega, [], h3.swap⟩, ?_⟩
  rintro m H4 ⟨m0, m1, F, h4⟩
  have fin : FnH Tryd.prog 24 #[.pointer (some ⟨d, 0, none⟩)] H4 fun v H5 => ∃ p : Option Addr, v = .pointer p ∧ br (Option.isNone p) (K (.bool false) H5) (FnH Tryd.prog 13 #[.pointer p, .string (⟨#[111, 116, 104, 101, 114]⟩ : ByteArray), .string (⟨#[120]⟩ : ByteArray)] H5 fun v H6 => ∃ n : Int, v = .int .i64 n ∧ FnH Tryd.prog 15 #[.pointer p, .slice none 0 0] H6 fun v H7 => v = .tuple #[] ∧ FnH Tryd.prog 23 #[.pointer (some ⟨d, 0, none⟩), .pointer (some ⟨r, 0, none⟩)] H7 fun v H8 => ∃ b : Bool, v = .bool b ∧ K (.bool b) H8) :=
    dclone_spec h4 fun d' H5 h5 _ => ⟨_, rfl, br_f rfl (append_spec h5 (by decide) fun H6 h6 => ⟨_, rfl, crash_spec (keep := ⟨none, 0, 0⟩) (L := []) (i := 2) h6 (c0 := ro H0) ⟨ro_mono H0, fun A _ => Ints.nil A⟩ rfl (by simp) fun H7 h7 => ⟨rfl, alike_spec h7.tail fun H8 h8 => ⟨_, rfl, k H8 (h8.sub 2 rfl)⟩⟩⟩)⟩
  refine br_intro (fun q => br_intro (fun q2 => ?_) (fun _ => fin)) (fun _ => fin)
  have q := of_decide_eq_true q
  obtain ⟨b, o, a, e1, e2, e3⟩ := (Recs.mono _ _ (h4.sub 2 rfl) hr).at_ eOplen (by decide) m0 q
  rw [wrap64_id (n := m + 1) (by omega) (by omega)]
  exact ⟨b, o, e1, m0, q, _, e3 0 _ rfl, _, e3 1 _ rfl, _, e3 2 _ rfl, _, e3 3 _ rfl, _, e3 4 _ rfl, does_spec (i0 := 0) h4 (ho a (List.mem_of_getElem? e2)) rfl fun F' H5 h5 => ⟨_, rfl, alike_spec h5 fun H6 h6 => ⟨_, rfl, br_f rfl (br_f rfl ⟨rfl, ⟨by omega, by omega, F', h6⟩, by dsimp only; omega⟩)⟩⟩⟩
end Go.Proofs.YtldaflbdldepnaaDoor
