/- The disk (out of chapter 1). -/
import Derived.Test.YtokceblmbmajgaaGreatDoorLays
import Derived.Test.YtokceblmbmajgaaGreatDoorHlSorted
import Derived.Test.YtokceblmbmajgaaGreatDoorHlAssoc
import Derived.Test.YtokceblmbmajgaaGreatDoorF1
import Derived.Sort.Walk0

/- Chapter 1: the library's functions; a disk as it lies in memory. -/
namespace Go.Proofs.YtokceblmbmajgaaGreatDoor
open Go Go.HL Go.RowKit Go.Maps Go.Shelf
set_option maxRecDepth 10000
set_option maxHeartbeats 800000

theorem sortsA (m : Nat) : AnyZ.SortsIn Tryz.prog Tryz.sortedA_ren Fence.wide m :=
  ⟨fun blk off cap ss W hH hblk hsz => callsIn_wide.2 (AnyM.slices_Sort_string Tryz.sortA blk off cap ss W hH hblk hsz),
   fun p cap W => callsIn_wide.2 (AnyM.slices_Sort_string_none Tryz.sortA p cap W)⟩
abbrev encS : ByteArray → Value := fun s => .string s
theorem keys_spec {cs : List Chunk} {H : Heap} {b : Nat} {K : Value → Heap → Prop} (h : HL.Holds cs H) (k : ∀ q H', HL.Holds (blk q (.cells #[.map (some b)] 56 (0, 0)) :: cs) H' → K (.func (.func 89) #[] #[.pointer (some ⟨q, 0, none⟩)]) H') :
    FnH Tryz.prog 72 #[.map (some b)] H K :=
  keys_fn (T := 56) (g := 89) (fun w => (callsIn_wide (n := 5)).1 (AnyZ.keys_in Tryz.keysA Fence.wide 5 trivial rfl (some b) w)) h k
theorem sorted_spec {cs : List Chunk} {H : Heap} {q b : Nat} {l : List (ByteArray × Value)} {K : Value → Heap → Prop} (h : HL.Holds (blk q (.cells #[.map (some b)] 56 (0, 0)) :: mp b encS l :: cs) H) (hn : (l.map Prod.fst).Nodup) (hlen : l.length ≤ 268435456)
    (hwf : ∀ x ∈ l.map Prod.fst, x.size ≤ 9223372036854775807)
    (k : ∀ (s : Sl) H', HL.Holds (HL.own 9 1 s ((((l.map Prod.fst).map fun x => x.data.toList).mergeSort fun x y => decide (x ≤ y)).map Go.Proofs.encStr) :: mp b encS l :: cs) H' → K (.slice s.p s.n s.c) H') :
    FnH Tryz.prog 71 #[.func (.func 89) #[] #[.pointer (some ⟨q, 0, none⟩)]] H K :=
  sortedStr_fn (g := 89) (kt := 9) (by kernel_rfl)
    (fun Bm b nn D0 w hBm hm hown => AnyZ.keys_gives (ρ := Tryz.keysA_ren) { Tryz.keysA with } Fence.wide _ trivial rfl (by omega) Bm b nn D0 w hBm hm hown)
    (fun lb S N w hN hNb hseq => (callsIn_wide (n := 5)).1 (AnyZ.sorted_in Tryz.sortedA Fence.wide 5 trivial trivial trivial trivial rfl (by omega) (sortsA _) (enters_of Tryz.func88 (by kernel_rfl) rfl) 89 lb trivial (enters_of Tryz.func89 (by kernel_rfl) rfl) S N hN hNb w hseq))
    h hn hlen hwf k
theorem trim_fn {s cutset : ByteArray} {H : Heap} {K : Value → Heap → Prop} (hs : s.size ≤ 9223372036854775807) (hcs : cutset.size < 4294967281) (ha : ∀ (j : Nat) (b : UInt8), cutset.data.toList[j]? = some b → b.toNat < 128)
    (k : K (.string ⟨(Lib.trimS s.data.toList cutset.data.toList).toArray⟩) H) : FnH Tryz.prog 95 #[.string s, .string cutset] H K :=
  FnH.of_below (fun w => Any.strings_Trim_laid Tryz.lays160 (by kernel_rfl) s cutset w hs hcs ha) k

/-! ### names -/
theorem dropWhile_all {α : Type} {p : α → Bool} : ∀ {l : List α}, l.dropWhile p = [] ↔ ∀ a ∈ l, p a = true := by
  intro l
  induction l with
  | nil => simp
  | cons a l ih =>
    rw [List.dropWhile_cons]
    split
    · rename_i q; rw [ih]; simp [q]
    · rename_i q; simp [q]
theorem dropWhile_first {α : Type} {p : α → Bool} : ∀ {l : List α} {a : α} {t : List α}, l.dropWhile p = a :: t → p a = false := by
  intro l
  induction l with
  | nil => intro a t h; simp at h
  | cons b l ih =>
    intro a t h
    rw [List.dropWhile_cons] at h
    split at h
    · exact ih h
    · rename_i q
      simp only [List.cons.injEq] at h
      rw [← h.1]; simpa using q
theorem trim_nil {l cs : List UInt8} : Lib.trimS l cs = [] ↔ (l.all fun b => cs.contains b) = true := by
  unfold Lib.trimS Lib.trimLeftS Lib.trimRightS
  rw [dropWhile_all, List.all_eq_true]
  constructor
  · intro h
    have h1 : (l.reverse.dropWhile fun x => cs.contains x) = [] := by
      cases e : l.reverse.dropWhile fun x => cs.contains x with
      | nil => rfl
      | cons a t =>
        have := h a (by rw [e]; simp)
        have h2 : cs.contains a = false := by
          exact dropWhile_first e
        rw [h2] at this; cases this
    have := dropWhile_all.1 h1
    intro a ha
    exact this a (by simpa using ha)
  · intro h
    have : (l.reverse.dropWhile fun x => cs.contains x) = [] := dropWhile_all.2 fun a ha => h a (by simpa using ha)
    rw [this]; simp
theorem bytes_nil (s : ByteArray) : (s.toList == (⟨#[]⟩ : ByteArray).toList) = decide (s.size = 0) := by
  rw [ByteArray.toList_eq, ByteArray.toList_eq]
  have : s.size = s.data.toList.length := (Array.length_toList).symm
  have e2 : (⟨#[]⟩ : ByteArray).data.toList = [] := rfl
  rw [this, e2]
  cases s.data.toList with
  | nil => rfl
  | cons a l => rw [decide_eq_false (by simp)]; rfl
/-- The bytes that a name may have. -/
def nameCut : List UInt8 := [97, 98, 99, 100, 101, 102, 103, 104, 105, 106, 107, 108, 109, 110, 111, 112, 113, 114, 115, 116, 117, 118, 119, 120, 121, 122, 48, 49, 50, 51, 52, 53, 54, 55, 56, 57, 45, 46]
def namedB (s : ByteArray) : Bool := decide (s.size ≠ 0) && decide (s.size ≤ 64) && s.data.toList.all fun b => nameCut.contains b
theorem named_spec {s : ByteArray} {H : Heap} {K : Value → Heap → Prop} (k : K (.bool (namedB s)) H) : FnH Tryz.prog 82 #[.string s] H K := by
  apply disk_named_fn
  unfold disk_named_vc
  rw [bytes_nil]
  unfold namedB at k
  refine br_intro (fun q => br_intro (fun q2 => ?_) (fun q2 => ?_)) (fun q => ?_)
  · have q : ¬ s.size = 0 := by simpa using q
    have q2 := of_decide_eq_true q2
    rw [decide_eq_true q, decide_eq_true (show s.size ≤ 64 by omega)] at k
    refine trim_fn (by omega) (by decide) (fun j b hj => ?_) ⟨_, rfl, ?_⟩
    · have hm := List.mem_of_getElem? hj
      have : ∀ b ∈ nameCut, b.toNat < 128 := by decide
      exact this b hm
    · rw [bytes_nil]
      have e : ((⟨(Lib.trimS s.data.toList nameCut).toArray⟩ : ByteArray).size = 0) ↔ (s.data.toList.all fun b => nameCut.contains b) = true := by
        rw [← trim_nil]
        show ((Lib.trimS s.data.toList nameCut).toArray.size = 0) ↔ _
        simp
      have e2 : decide ((⟨(Lib.trimS s.data.toList nameCut).toArray⟩ : ByteArray).size = 0) = (s.data.toList.all fun b => nameCut.contains b) := by
        rw [Bool.eq_iff_iff, decide_eq_true_eq]; exact e
      show K (.bool (decide ((⟨(Lib.trimS s.data.toList nameCut).toArray⟩ : ByteArray).size = 0))) H
      rw [e2]
      simpa using k
  · have q2 := of_decide_eq_false q2
    rw [decide_eq_false (show ¬ s.size ≤ 64 by omega)] at k; simpa using k
  · have q : s.size = 0 := by simpa using q
    rw [decide_eq_false (show ¬ s.size ≠ 0 by simp [q])] at k; simpa using k
theorem namedB_size {s : ByteArray} (h : namedB s = true) : s.size ≤ 64 := by
  unfold namedB at h
  simp only [Bool.and_eq_true, decide_eq_true_eq] at h
  exact h.1.2
/-- Go's '<' on strings. -/
def ltB (x y : ByteArray) : Bool := Op.bytesLess x.toList y.toList
theorem bytes_ext {x y : ByteArray} (h : x.toList = y.toList) : x = y := by
  rw [ByteArray.toList_eq, ByteArray.toList_eq] at h
  exact Go.WideShapes.bytes_inj h
theorem ltB_iff {x y : ByteArray} : ltB x y = true ↔ x.data.toList < y.data.toList := by
  unfold ltB
  rw [Go.Proofs.bytesLess_eq, ByteArray.toList_eq, ByteArray.toList_eq, decide_eq_true_eq]
theorem ltB_ok : LtOK ltB where
  irr a := by
    cases e : ltB a a with
    | false => rfl
    | true => exact absurd (ltB_iff.1 e) (List.lt_irrefl _)
  trans a b c h1 h2 := ltB_iff.2 (List.lt_trans (ltB_iff.1 h1) (ltB_iff.1 h2))
  tri a b h := by
    by_cases q : ltB a b = true
    · exact .inl q
    · right
      refine ltB_iff.2 ?_
      have h1 : ¬ a.data.toList < b.data.toList := fun z => q (ltB_iff.2 z)
      have h2 : b.data.toList ≤ a.data.toList := List.not_lt.1 h1
      rcases List.le_iff_lt_or_eq.1 h2 with z | z
      · exact z
      · exact absurd (Go.WideShapes.bytes_inj z).symm h
/-! ### a disk in memory -/
/-- A file's bytes, and how many of them are safe. -/
abbrev Fi := ByteArray × Int
abbrev Fs := List (ByteArray × Fi)
abbrev fiV (f : Fi) : Value := .agg #[.string f.1, .int .i64 f.2]
abbrev fmap (fs : Fs) : List (ByteArray × Value) := fs.map fun p => (p.1, fiV p.2)
def f0 : Fi := (⟨#[]⟩, 0)
def useF (F : Fs) : Int := sumL (fun f : Fi => (f.1.size : Int)) F
abbrev getF (F : Fs) (n : ByteArray) : Fi := (lookL F n).getD f0
structure DkB (size : Int) (F : Fs) : Prop where
  s0 : 1 ≤ size
  s1 : size ≤ 16777216
  sorted : SortedL ltB F
  use : useF F ≤ size
  few : F.length ≤ 256
  names : ∀ p ∈ F, namedB p.1 = true
  safe : ∀ p ∈ F, 0 ≤ p.2.2 ∧ p.2.2 ≤ p.2.1.size
def dsk (d : Nat) (size : Int) (F : Fs) : Chunk := fun H => ∃ q : Nat × Fs, (DkB size F ∧ q.2.Perm F) ∧ HL.Holds [blk d (.cells #[.int .i64 size, .int .i64 (useF F), .map (some q.1)] 58 (0, 0)), mp q.1 encS (fmap q.2)] H
theorem dsk_mono {d : Nat} {size : Int} {F : Fs} : Mono (dsk d size F) := fun _ _ hs ⟨q, e, h⟩ => ⟨q, e, h.up hs⟩
theorem dsk_open {cs : List Chunk} {H : Heap} {d : Nat} {size : Int} {F : Fs} : HL.Holds (dsk d size F :: cs) H ↔ ∃ mb fs, (DkB size F ∧ List.Perm fs F) ∧ HL.Holds (blk d (.cells #[.int .i64 size, .int .i64 (useF F), .map (some mb)] 58 (0, 0)) :: mp mb encS (fmap fs) :: cs) H := by
  constructor
  · intro h
    obtain ⟨q, h⟩ := Holds.ex.1 h
    obtain ⟨e, h⟩ := Holds.pure.1 h
    exact ⟨q.1, q.2, e, Holds.flat.1 h⟩
  · rintro ⟨mb, ps, e, h⟩
    exact Holds.ex.2 ⟨(mb, ps), Holds.pure.2 ⟨e, Holds.flat.2 h⟩⟩
theorem look_fmap {fs : Fs} {n : ByteArray} : lookL (fmap fs) n = (lookL fs n).map fiV := lookL_map (f := fiV)
theorem useF_cons (a : ByteArray × Fi) (F : Fs) : useF (a :: F) = (a.2.1.size : Int) + useF F := by simp [useF, sumL]
theorem useF_append (A B : Fs) : useF (A ++ B) = useF A + useF B := by simp [useF, sumL]
theorem useF_nonneg (F : Fs) : 0 ≤ useF F := by
  induction F with
  | nil => exact Int.le_refl _
  | cons p F ih => rw [useF_cons]; omega
theorem useF_le {F : Fs} {p : ByteArray × Fi} (h : p ∈ F) : (p.2.1.size : Int) ≤ useF F := by
  induction F with
  | nil => simp at h
  | cons a F ih =>
    have h0 := useF_nonneg F
    rw [useF_cons]
    rcases List.mem_cons.1 h with q | q
    · subst q; omega
    · have := ih q; omega
theorem useF_ins {F : Fs} (hs : SortedL ltB F) (n : ByteArray) (f : Fi) : useF (insL ltB F n f) = useF F - (getF F n).1.size + f.1.size := by
  have := sumL_ins ltB_ok (f := fun f : Fi => (f.1.size : Int)) hs (k := n) (v := f) (d := f0) rfl
  unfold useF; rw [this]
theorem useF_del {F : Fs} (hs : SortedL ltB F) (n : ByteArray) : useF (delL F n) = useF F - (getF F n).1.size := by
  have := sumL_del (f := fun f : Fi => (f.1.size : Int)) (hs.nodup ltB_ok) (k := n) (d := f0) rfl
  unfold useF; rw [this]
theorem getF_mem {F : Fs} {n : ByteArray} {f : Fi} (h : lookL F n = some f) : (n, f) ∈ F := by
  obtain ⟨i, hi⟩ := lookL_idx h
  exact List.mem_of_getElem? (idxL_get hi)
theorem DkB.get {size : Int} {F : Fs} (h : DkB size F) (n : ByteArray) : ((getF F n).1.size : Int) ≤ useF F ∧ 0 ≤ (getF F n).2 ∧ (getF F n).2 ≤ (getF F n).1.size := by
  have h0 := useF_nonneg F
  unfold getF
  cases e : lookL F n with
  | none => exact ⟨h0, Int.le_refl _, Int.le_refl _⟩
  | some f => exact ⟨useF_le (getF_mem e), h.safe _ (getF_mem e)⟩
theorem isN_of {α : Type} {o : Option α} (h : (!o.isSome) = true) : o = none := by cases o <;> simp_all
theorem isS_of {α : Type} {o : Option α} (h : (!o.isSome) = false) : ¬ o = none := by cases o <;> simp_all
theorem uDkMap : Tryz.prog.underlying 56 = some (.map 9 91) := by kernel_rfl
theorem kstr : KeyOK Tryz.prog 9 encS := KeyOK.str (by kernel_rfl)
theorem zDkFile : zeroT Tryz.prog 91 = some (fiV f0) := by kernel_rfl
theorem getV {F fs : Fs} (hp : List.Perm fs F) (hn : (F.map Prod.fst).Nodup) (n : ByteArray) : (lookL (fmap fs) n).getD (fiV f0) = fiV (getF F n) := by
  rw [look_fmap, look_perm hp ((hp.map Prod.fst).nodup_iff.2 hn)]
  unfold getF
  cases lookL F n <;> rfl
theorem hasV {F fs : Fs} (hp : List.Perm fs F) (hn : (F.map Prod.fst).Nodup) (n : ByteArray) : (lookL (fmap fs) n).isSome = (lookL F n).isSome := by
  rw [look_fmap, look_perm hp ((hp.map Prod.fst).nodup_iff.2 hn)]
  cases lookL F n <;> rfl
theorem free_spec {cs : List Chunk} {H : Heap} {d : Nat} {size : Int} {F : Fs} {i : Nat} {K : Value → Heap → Prop} (h : HL.Holds cs H) (ei : cs[i]? = some (dsk d size F)) (k : K (.int .i64 (size - useF F)) H) : FnH Tryz.prog 63 #[.pointer (some ⟨d, 0, none⟩)] H K := by
  apply disk_Disk_Free_fn
  unfold disk_Disk_Free_vc
  obtain ⟨⟨mb, fs⟩, ⟨hB, hp⟩, hh⟩ := h.read i ei dsk_mono
  refine ⟨size, hh.cell 0 rfl rfl, _, hh.cell 0 rfl rfl, ?_⟩
  have h0 := useF_nonneg F
  have := hB.use; have := hB.s1
  rw [wrap64_id (by omega) (by omega)]; exact k
end Go.Proofs.YtokceblmbmajgaaGreatDoor

/- Chapter 1: the disk's calls. -/
namespace Go.Proofs.YtokceblmbmajgaaGreatDoor
open Go Go.HL
set_option maxRecDepth 10000
set_option maxHeartbeats 800000

section
variable {cs : List Chunk} {H : Heap} {d : Nat} {size : Int} {F : Fs} {K : Value → Heap → Prop} {n b : ByteArray}
theorem put_spec {f : Fi} (h : Holds (dsk d size F :: cs) H) (hb : DkB size (insL ltB F n f)) (k : ∀ H', Holds (dsk d size (insL ltB F n f) :: cs) H' → K (.tuple #[]) H') :
    FnH Tryz.prog 49 #[.pointer (some ⟨d, 0, none⟩), .string n, fiV f] H K := by
  apply disk_Disk_put_fn
  unfold disk_Disk_put_vc
  obtain ⟨mb, fs, ⟨hB, hp⟩, h⟩ := dsk_open.1 h
  have hn := hB.sorted.nodup ltB_ok
  refine ⟨_, h.cell 0 rfl rfl, some mb, h.cell 0 rfl rfl, runH_lookup1 uDkMap kstr zDkFile (h.map 1 rfl) (k := n) ?_⟩
  rw [getV hp hn]
  have g := hB.get n
  have h0 := useF_nonneg F
  have h1 := hB.use; have h2 := hB.s1
  have eu := useF_ins hB.sorted n f
  have h3 := hb.use
  have h4 := useF_nonneg (insL ltB F n f)
  refine ⟨_, _, rfl, HL.Sub.refl _, ?_⟩
  rw [wrap64_id (n := (f.1.size : Int) - ((getF F n).1.size : Int)) (by omega) (by omega), wrap64_id (by omega) (by omega)]
  have e1 : useF F + ((f.1.size : Int) - ((getF F n).1.size : Int)) = useF (insL ltB F n f) := by omega
  rw [e1]
  refine Holds.store h 0 rfl (by simp) fun H1 h1 => ⟨some mb, h1.cell 0 rfl rfl, Holds.update h1 1 rfl uDkMap kstr fun H2 h2 => k H2 (dsk_open.2 ⟨mb, putL fs n f, ⟨hb, put_ins ltB_ok hp hB.sorted n f⟩, ?_⟩)⟩
  have e2 : fmap (putL fs n f) = putL (fmap fs) n (fiV f) := (putL_map (f := fiV)).symm
  rw [e2]; exact h2
/-- May a file be made, if there is none? -/
def roomC (F : Fs) (n : ByteArray) : Int := if namedB n = false then 1 else if lookL F n = none ∧ F.length ≥ 256 then 3 else 0
theorem room_spec {i : Nat} (h : Holds cs H) (ei : cs[i]? = some (dsk d size F)) (k : K (.int .i64 (roomC F n)) H) : FnH Tryz.prog 62 #[.pointer (some ⟨d, 0, none⟩), .string n] H K := by
  apply disk_Disk_room_fn
  unfold disk_Disk_room_vc
  obtain ⟨⟨mb, fs⟩, ⟨hB, hp⟩, hh⟩ := h.read i ei dsk_mono
  have hn := hB.sorted.nodup ltB_ok
  unfold roomC at k
  refine named_spec ⟨_, rfl, br_intro (fun q => ?_) (fun q => ?_)⟩
  · rw [if_pos (by simpa using q)] at k; exact k
  rw [if_neg (by simpa using q)] at k
  refine ⟨some mb, hh.cell 0 rfl rfl, runH_lookup uDkMap kstr zDkFile (hh.map 1 rfl) (k := n) ?_⟩
  rw [getV hp hn, hasV hp hn]
  refine ⟨_, _, _, rfl, br_intro (fun q2 => ?_) (fun q2 => ?_)⟩
  · have q2 : lookL F n = none := isN_of q2
    refine ⟨some mb, hh.cell 0 rfl rfl, Holds.lenM hh 1 rfl ?_⟩
    have el : (fmap fs).length = F.length := by rw [List.length_map]; exact hp.length_eq
    rw [el]
    refine br_intro (fun q3 => ?_) (fun q3 => ?_)
    · have q3 := of_decide_eq_true q3
      rw [if_pos ⟨q2, by omega⟩] at k; exact k
    · have q3 := of_decide_eq_false q3
      rw [if_neg (fun z => by omega)] at k; exact k
  · have q2 : ¬ lookL F n = none := isS_of q2
    rw [if_neg (fun z => q2 z.1)] at k; exact k
theorem read_spec {i : Nat} (h : Holds cs H) (ei : cs[i]? = some (dsk d size F)) (k : K (.tuple #[.string (getF F n).1, .int .i64 (if lookL F n = none then 8 else 0)]) H) : FnH Tryz.prog 30 #[.pointer (some ⟨d, 0, none⟩), .string n] H K := by
  apply disk_Disk_Read_fn
  unfold disk_Disk_Read_vc
  obtain ⟨⟨mb, fs⟩, ⟨hB, hp⟩, hh⟩ := h.read i ei dsk_mono
  have hn := hB.sorted.nodup ltB_ok
  refine ⟨some mb, hh.cell 0 rfl rfl, runH_lookup uDkMap kstr zDkFile (hh.map 1 rfl) (k := n) ?_⟩
  rw [getV hp hn, hasV hp hn]
  refine ⟨_, _, _, rfl, br_intro (fun q => ?_) (fun q => ?_)⟩
  · have q : lookL F n = none := isN_of q
    unfold getF at k
    rw [if_pos q, q] at k; exact k
  · have q : ¬ lookL F n = none := isS_of q
    rw [if_neg q] at k; exact k
theorem synced_spec {i : Nat} (h : Holds cs H) (ei : cs[i]? = some (dsk d size F)) (k : K (.int .i64 (getF F n).2) H) : FnH Tryz.prog 34 #[.pointer (some ⟨d, 0, none⟩), .string n] H K := by
  apply disk_Disk_Synced_fn
  unfold disk_Disk_Synced_vc
  obtain ⟨⟨mb, fs⟩, ⟨hB, hp⟩, hh⟩ := h.read i ei dsk_mono
  refine ⟨some mb, hh.cell 0 rfl rfl, runH_lookup1 uDkMap kstr zDkFile (hh.map 1 rfl) (k := n) ?_⟩
  rw [getV hp (hB.sorted.nodup ltB_ok)]
  exact ⟨_, _, rfl, k⟩
theorem size_spec {i : Nat} (h : Holds cs H) (ei : cs[i]? = some (dsk d size F)) (k : K (.int .i64 (getF F n).1.size) H) : FnH Tryz.prog 47 #[.pointer (some ⟨d, 0, none⟩), .string n] H K := by
  apply disk_Disk_Size_fn
  unfold disk_Disk_Size_vc
  obtain ⟨⟨mb, fs⟩, ⟨hB, hp⟩, hh⟩ := h.read i ei dsk_mono
  refine ⟨some mb, hh.cell 0 rfl rfl, runH_lookup1 uDkMap kstr zDkFile (hh.map 1 rfl) (k := n) ?_⟩
  rw [getV hp (hB.sorted.nodup ltB_ok)]
  exact ⟨_, _, rfl, k⟩
theorem dnew_spec (h : Holds cs H) (k0 : (size < 1 ∨ size > 16777216) → K (.tuple #[.pointer none, .int .i64 1]) H) (k : 1 ≤ size → size ≤ 16777216 → ∀ d H', Holds (dsk d size [] :: cs) H' → K (.tuple #[.pointer (some ⟨d, 0, none⟩), .int .i64 0]) H') : FnH Tryz.prog 6 #[.int .i64 size] H K := by
  apply disk_New_fn
  unfold disk_New_vc
  refine br_intro (fun q => k0 (.inl (of_decide_eq_true q))) (fun q => br_intro (fun q2 => k0 (.inr (of_decide_eq_true q2))) (fun q2 => ?_))
  have q := of_decide_eq_false q
  have q2 := of_decide_eq_false q2
  refine h.newMap encS fun mb H1 h1 => h1.new fun d H2 h2 => k (by omega) (by omega) d H2 (dsk_open.2 ⟨mb, [], ⟨⟨by omega, by omega, List.Pairwise.nil, ?_, by simp, by simp, by simp⟩, List.Perm.refl _⟩, h2⟩)
  show (0 : Int) ≤ size
  omega
theorem DkB.ins (hB : DkB size F) {f : Fi} (hn : namedB n = true) (hlen : lookL F n = none → F.length < 256) (hu : useF F - (getF F n).1.size + f.1.size ≤ size) (hs : 0 ≤ f.2 ∧ f.2 ≤ f.1.size) : DkB size (insL ltB F n f) := by
  refine ⟨hB.s0, hB.s1, insL_sorted ltB_ok hB.sorted, by rw [useF_ins hB.sorted]; exact hu, ?_, fun p hp => ?_, fun p hp => ?_⟩
  · have hp := (insL_perm ltB_ok hB.sorted (k := n) (v := f)).length_eq
    rw [List.length_cons] at hp
    cases e : lookL F n with
    | none =>
      have := hlen e
      have h2 : (delL F n).length ≤ F.length := delL_sub.length_le
      omega
    | some v =>
      have : (delL F n).length < F.length := by
        obtain ⟨i, hi⟩ := lookL_idx e
        rw [delL_erase hi]
        have := (List.getElem?_eq_some_iff.1 (idxL_get hi)).1
        rw [List.length_eraseIdx]; split <;> omega
      have := hB.few
      omega
  · rcases insL_keys hp with e | e
    · rw [e]; exact hn
    · exact hB.names p e
  · rcases insL_keys hp with e | e
    · rw [e]; exact hs
    · exact hB.safe p e
theorem DkB.del (hB : DkB size F) : DkB size (delL F n) :=
  ⟨hB.s0, hB.s1, delL_sorted hB.sorted, by rw [useF_del hB.sorted]; have := hB.use; omega, Nat.le_trans delL_sub.length_le hB.few, fun p hp => hB.names p (delL_sub.subset hp), fun p hp => hB.safe p (delL_sub.subset hp)⟩
theorem DkB.named (hB : DkB size F) {f : Fi} (h : lookL F n = some f) : namedB n = true := hB.names _ (getF_mem h)
theorem roomC_ok (h : roomC F n = 0) : namedB n = true ∧ (lookL F n = none → F.length < 256) := by
  unfold roomC at h
  split at h
  · cases h
  · rename_i q
    split at h
    · cases h
    · rename_i q2
      refine ⟨by simpa using q, fun e => ?_⟩
      have : ¬ F.length ≥ 256 := fun z => q2 ⟨e, z⟩
      omega
/-- How much of a text there is room for. -/
def fitN (size : Int) (F : Fs) (b : ByteArray) : Int := if size - useF F < b.size then size - useF F else b.size
def appF (size : Int) (F : Fs) (n b : ByteArray) : Fi := ((getF F n).1 ++ b.extract 0 (fitN size F b).toNat, (getF F n).2)
def appC (size : Int) (F : Fs) (n b : ByteArray) : Int := if roomC F n ≠ 0 then roomC F n else if fitN size F b < b.size then 7 else 0
def appM (size : Int) (F : Fs) (n b : ByteArray) : Fs := if roomC F n ≠ 0 then F else insL ltB F n (appF size F n b)
theorem fitN_in (hB : DkB size F) (b : ByteArray) : 0 ≤ fitN size F b ∧ fitN size F b ≤ b.size ∧ fitN size F b ≤ size - useF F := by
  have := hB.use
  unfold fitN
  split <;> omega
theorem ext_size {b : ByteArray} {m : Nat} (h : m ≤ b.size) : (b.extract 0 m).size = m := by
  rw [ByteArray.size_extract]; omega
theorem app_ok (hB : DkB size F) (h : roomC F n = 0) : DkB size (insL ltB F n (appF size F n b)) := by
  obtain ⟨h1, h2⟩ := roomC_ok h
  obtain ⟨f1, f2, f3⟩ := fitN_in hB b
  have g := hB.get n
  have es : ((appF size F n b).1.size : Int) = (getF F n).1.size + fitN size F b := by
    unfold appF
    rw [ByteArray.size_append, ext_size (by omega)]; omega
  refine hB.ins h1 h2 (by omega) ⟨g.2.1, ?_⟩
  have : (appF size F n b).2 = (getF F n).2 := rfl
  omega
theorem append_spec (h : Holds (dsk d size F :: cs) H) (hb : b.size ≤ 9223372036854775807) (k : ∀ H', Holds (dsk d size (appM size F n b) :: cs) H' → K (.int .i64 (appC size F n b)) H') : FnH Tryz.prog 38 #[.pointer (some ⟨d, 0, none⟩), .string n, .string b] H K := by
  apply disk_Disk_Append_fn
  unfold disk_Disk_Append_vc
  obtain ⟨mb, fs, ⟨hB, hp⟩, h'⟩ := dsk_open.1 h
  have hn := hB.sorted.nodup ltB_ok
  unfold appC appM at k
  refine room_spec (i := 0) h rfl ⟨_, rfl, br_intro (fun q => ?_) (fun q => ?_)⟩
  · have q : roomC F n ≠ 0 := by simpa using q
    rw [if_pos q, if_pos q] at k; exact k H h
  have q : roomC F n = 0 := by simpa using q
  rw [if_neg (fun z => z q), if_neg (fun z => z q)] at k
  refine ⟨some mb, h'.cell 0 rfl rfl, runH_lookup1 uDkMap kstr zDkFile (h'.map 1 rfl) (k := n) ?_⟩
  rw [getV hp hn]
  refine ⟨_, _, rfl, free_spec (i := 0) h rfl ⟨_, rfl, ?_⟩⟩
  have ef : (if size - useF F < (b.size : Int) then size - useF F else (b.size : Int)) = fitN size F b := rfl
  rw [ef]
  obtain ⟨f1, f2, f3⟩ := fitN_in hB b
  have g := hB.get n
  have := hB.use; have := hB.s1
  have hs := hB.s1
  refine ⟨f1, f2, ?_, put_spec (f := appF size F n b) h (app_ok hB q) fun H1 h1 => ⟨rfl, br_intro (fun q2 => ?_) (fun q2 => ?_)⟩⟩
  · have : (b.extract (Int.toNat 0) (Int.toNat (fitN size F b))).size = (fitN size F b).toNat := ext_size (by omega)
    rw [this]; omega
  · rw [if_pos (of_decide_eq_true q2)] at k; exact k H1 h1
  · rw [if_neg (of_decide_eq_false q2)] at k; exact k H1 h1
def synM (F : Fs) (n : ByteArray) : Fs := if lookL F n = none then F else insL ltB F n ((getF F n).1, ((getF F n).1.size : Int))
theorem sync_spec (h : Holds (dsk d size F :: cs) H) (k : ∀ H', Holds (dsk d size (synM F n) :: cs) H' → K (.int .i64 (if lookL F n = none then 8 else 0)) H') : FnH Tryz.prog 43 #[.pointer (some ⟨d, 0, none⟩), .string n] H K := by
  apply disk_Disk_Sync_fn
  unfold disk_Disk_Sync_vc
  obtain ⟨mb, fs, ⟨hB, hp⟩, h'⟩ := dsk_open.1 h
  have hn := hB.sorted.nodup ltB_ok
  refine ⟨some mb, h'.cell 0 rfl rfl, runH_lookup uDkMap kstr zDkFile (h'.map 1 rfl) (k := n) ?_⟩
  rw [getV hp hn, hasV hp hn]
  unfold synM at k
  refine ⟨_, _, _, rfl, br_intro (fun q => ?_) (fun q => ?_)⟩
  · have q : lookL F n = none := isN_of q
    rw [if_pos q, if_pos q] at k; exact k H h
  · have q : ¬ lookL F n = none := isS_of q
    rw [if_neg q, if_neg q] at k
    obtain ⟨f, hf⟩ := Option.ne_none_iff_exists'.1 q
    have := hB.use
    exact put_spec (f := ((getF F n).1, ((getF F n).1.size : Int))) h (hB.ins (hB.named hf) (fun e => absurd e q) (by dsimp only; omega) ⟨by dsimp only; omega, Int.le_refl _⟩) fun H1 h1 => ⟨rfl, k H1 h1⟩
def cutC (F : Fs) (n : ByteArray) (m : Int) : Int := if lookL F n = none then 8 else if m < 0 ∨ m > (getF F n).1.size then 1 else 0
def cutM (F : Fs) (n : ByteArray) (m : Int) : Fs := if cutC F n m ≠ 0 then F else insL ltB F n ((getF F n).1.extract 0 m.toNat, if m < (getF F n).2 then m else (getF F n).2)
theorem cut_spec {m : Int} (h : Holds (dsk d size F :: cs) H) (k : ∀ H', Holds (dsk d size (cutM F n m) :: cs) H' → K (.int .i64 (cutC F n m)) H') : FnH Tryz.prog 42 #[.pointer (some ⟨d, 0, none⟩), .string n, .int .i64 m] H K := by
  apply disk_Disk_Cut_fn
  unfold disk_Disk_Cut_vc
  obtain ⟨mb, fs, ⟨hB, hp⟩, h'⟩ := dsk_open.1 h
  have hn := hB.sorted.nodup ltB_ok
  refine ⟨some mb, h'.cell 0 rfl rfl, runH_lookup uDkMap kstr zDkFile (h'.map 1 rfl) (k := n) ?_⟩
  rw [getV hp hn, hasV hp hn]
  have bad : ∀ c : Int, c ≠ 0 → cutC F n m = c → K (.int .i64 c) H := fun c c0 e => by
    have k := k H (by unfold cutM; rw [if_pos (by rw [e]; exact c0)]; exact h)
    rw [e] at k; exact k
  refine ⟨_, _, _, rfl, br_intro (fun q => ?_) (fun q => br_intro (fun q2 => ?_) (fun q2 => br_intro (fun q3 => ?_) (fun q3 => ?_)))⟩
  · have q : lookL F n = none := isN_of q
    exact bad 8 (by decide) (by unfold cutC; rw [if_pos q])
  · have q : ¬ lookL F n = none := isS_of q
    exact bad 1 (by decide) (by unfold cutC; rw [if_neg q, if_pos (.inl (of_decide_eq_true q2))])
  · have q : ¬ lookL F n = none := isS_of q
    exact bad 1 (by decide) (by unfold cutC; rw [if_neg q, if_pos (.inr (of_decide_eq_true q3))])
  · have q : ¬ lookL F n = none := isS_of q
    have q2 := of_decide_eq_false q2
    have q3 := of_decide_eq_false q3
    have e : cutC F n m = 0 := by unfold cutC; rw [if_neg q, if_neg (fun z => z.elim q2 q3)]
    unfold cutM at k
    rw [e, if_neg (fun z => z rfl)] at k
    obtain ⟨f, hf⟩ := Option.ne_none_iff_exists'.1 q
    have := hB.use
    have g := hB.get n
    have es : ((getF F n).1.extract 0 m.toNat).size = m.toNat := ext_size (by omega)
    refine ⟨by omega, by omega, put_spec (f := ((getF F n).1.extract 0 m.toNat, if m < (getF F n).2 then m else (getF F n).2)) h (hB.ins (hB.named hf) (fun e => absurd e q) ?_ ?_) fun H1 h1 => ⟨rfl, k H1 h1⟩⟩
    · dsimp only; rw [es]; omega
    · dsimp only; rw [es]; split <;> omega
def repC (size : Int) (F : Fs) (n b : ByteArray) : Int := if roomC F n ≠ 0 then roomC F n else if (b.size : Int) > size - useF F + (getF F n).1.size then 7 else 0
def repM (size : Int) (F : Fs) (n b : ByteArray) : Fs := if repC size F n b ≠ 0 then F else insL ltB F n (b, (b.size : Int))
def remM (F : Fs) (n : ByteArray) : Fs := if lookL F n = none then F else delL F n
theorem del_ins {f : Fi} (hs : SortedL ltB F) : delL (insL ltB F n f) n = delL F n := by
  refine sorted_eq ltB_ok ?_ (delL_sorted (insL_sorted ltB_ok hs)) (delL_sorted hs)
  rw [delL_filter ((insL_sorted ltB_ok hs).nodup ltB_ok)]
  refine ((insL_perm ltB_ok hs).filter _).trans ?_
  rw [List.filter_cons_of_neg (by simp), delL_filter (hs.nodup ltB_ok)]
  rw [List.filter_filter]
  simp
def renC (F : Fs) (n to : ByteArray) : Int := if namedB to = false then 1 else if lookL F n = none then 8 else 0
def renM (F : Fs) (n to : ByteArray) : Fs := if renC F n to ≠ 0 ∨ n = to then F else insL ltB (delL F n) to (getF F n)
end
end Go.Proofs.YtokceblmbmajgaaGreatDoor

/- Chapter 1: names, a crash. -/
namespace Go.Proofs.YtokceblmbmajgaaGreatDoor
open Go Go.HL
set_option maxRecDepth 10000
set_option maxHeartbeats 800000

abbrev eS : ByteArray → List Value := fun s => [.string s]
theorem eSlen : ∀ x, (eS x).length = 1 := fun _ => rfl
abbrev ownS (s : Sl) (l : List ByteArray) : Chunk := own 9 1 s (l.flatMap eS)
theorem Recs.getS {H : Heap} {s : Sl} {l : List ByteArray} (h : Recs eS H s l) {j : Int} (h0 : 0 ≤ j) (h1 : j < s.n) : ∃ q o a, s.p = some ⟨q, o, none⟩ ∧ l[j.toNat]? = some a ∧ cellH H ⟨q, o + j.toNat, none⟩ = some (.string a) := by
  obtain ⟨q, o, a, e1, e2, e3⟩ := h.at_ eSlen (by decide) h0 h1
  have := e3 0 _ rfl
  rw [Nat.mul_one] at this
  exact ⟨q, o, a, e1, e2, this⟩
theorem encStr_of (s : ByteArray) : Go.Proofs.encStr s.data.toList = .string s := by simp [Go.Proofs.encStr]
section
variable {cs : List Chunk} {H : Heap} {d : Nat} {size : Int} {F : Fs} {K : Value → Heap → Prop} {n b : ByteArray}
theorem sorted_names {F fs : Fs} (hp : List.Perm fs F) (hs : SortedL ltB F) : ((((fmap fs).map Prod.fst).map fun x => x.data.toList).mergeSort fun x y => decide (x ≤ y)).map Go.Proofs.encStr = (F.map Prod.fst).flatMap eS := by
  have e1 : (fmap fs).map Prod.fst = fs.map Prod.fst := by simp [fmap, Function.comp_def]
  rw [e1]
  have e2 : ((fs.map Prod.fst).map fun x => x.data.toList).mergeSort (fun x y => decide (x ≤ y)) = ((F.map Prod.fst).map fun x => x.data.toList).mergeSort fun x y => decide (x ≤ y) :=
    mergeSort_of_perm ((hp.map Prod.fst).map _)
  rw [e2]
  have e3 : ((F.map Prod.fst).map fun x => x.data.toList).mergeSort (fun x y => decide (x ≤ y)) = (F.map Prod.fst).map fun x => x.data.toList := by
    refine List.mergeSort_of_pairwise ?_
    rw [List.map_map, List.pairwise_map]
    refine hs.imp fun {a b} hab => ?_
    simp only [Function.comp_def, decide_eq_true_eq]
    exact List.le_of_lt (ltB_iff.1 hab)
  rw [e3, List.map_map]
  have e4 : (Go.Proofs.encStr ∘ fun x : ByteArray => x.data.toList) = fun x => Value.string x := by
    funext x; exact encStr_of x
  rw [e4]
  induction F.map Prod.fst with
  | nil => rfl
  | cons a l ih => rw [List.map_cons, ih]; rfl
theorem names_spec (h : Holds (dsk d size F :: cs) H) (k : ∀ (s : Sl) H', Holds (ownS s (F.map Prod.fst) :: dsk d size F :: cs) H' → K (.slice s.p s.n s.c) H') : FnH Tryz.prog 48 #[.pointer (some ⟨d, 0, none⟩)] H K := by
  apply disk_Disk_Names_fn
  unfold disk_Disk_Names_vc
  obtain ⟨mb, fs, ⟨hB, hp⟩, h'⟩ := dsk_open.1 h
  have hnd : ((fmap fs).map Prod.fst).Nodup := by
    have e1 : (fmap fs).map Prod.fst = fs.map Prod.fst := by simp [fmap, Function.comp_def]
    rw [e1]; exact (hp.map Prod.fst).nodup_iff.2 (hB.sorted.nodup ltB_ok)
  have hlen : (fmap fs).length = F.length := by rw [List.length_map]; exact hp.length_eq
  have hf := hB.few
  refine ⟨some mb, h'.cell 0 rfl rfl, keys_spec (h'.swap) fun q H1 h1 => ⟨⟨_, _, _⟩, rfl, sorted_spec h1 hnd (by omega) (fun x hx => ?_) fun s H2 h2 => ⟨s, rfl, k s H2 ?_⟩⟩⟩
  · have e1 : (fmap fs).map Prod.fst = fs.map Prod.fst := by simp [fmap, Function.comp_def]
    rw [e1] at hx
    obtain ⟨p, hp', rfl⟩ := List.mem_map.1 hx
    have := namedB_size (hB.names p (hp.mem_iff.1 hp'))
    omega
  · rw [sorted_names hp hB.sorted] at h2
    have h3 : Holds (blk d (.cells #[.int .i64 size, .int .i64 (useF F), .map (some mb)] 58 (0, 0)) :: mp mb encS (fmap fs) :: ownS s (F.map Prod.fst) :: cs) H2 := (h2.pull 2 rfl).perm ((List.Perm.swap _ _ _).cons _)
    exact (dsk_open.2 ⟨mb, fs, ⟨hB, hp⟩, h3⟩).swap
/-! ### a crash -/
def crashF : List Int → Fs → Fs
  | _, [] => []
  | L, p :: F => if (p.2.1.size : Int) - p.2.2 = 0 then p :: crashF L F
    else (p.1, p.2.1.extract 0 (p.2.2 + pickI (L.headD 0) ((p.2.1.size : Int) - p.2.2 + 1)).toNat, p.2.2 + pickI (L.headD 0) ((p.2.1.size : Int) - p.2.2 + 1)) :: crashF (L.drop 1) F
theorem crashF_cons (L : List Int) (p : ByteArray × Fi) (F : Fs) : crashF L (p :: F) = if (p.2.1.size : Int) - p.2.2 = 0 then p :: crashF L F
    else (p.1, p.2.1.extract 0 (p.2.2 + pickI (L.headD 0) ((p.2.1.size : Int) - p.2.2 + 1)).toNat, p.2.2 + pickI (L.headD 0) ((p.2.1.size : Int) - p.2.2 + 1)) :: crashF (L.drop 1) F := rfl
theorem ins_mid {D R : Fs} {p : ByteArray × Fi} (hs : SortedL ltB (D ++ p :: R)) (v : Fi) : insL ltB (D ++ p :: R) p.1 v = D ++ (p.1, v) :: R := by
  induction D with
  | nil => show insL ltB (p :: R) p.1 v = _; unfold insL; rw [if_pos rfl]; rfl
  | cons x D ih =>
    obtain ⟨h1, h2⟩ := List.pairwise_cons.1 hs
    have hx : ltB x.1 p.1 = true := h1 p (by simp)
    show insL ltB (x :: (D ++ p :: R)) p.1 v = _
    unfold insL
    rw [if_neg (fun e => ltB_ok.ne hx e.symm), if_neg (by rw [ltB_ok.asymm hx]; simp), ih h2]; rfl
theorem look_mid {D R : Fs} {p : ByteArray × Fi} (hs : SortedL ltB (D ++ p :: R)) : lookL (D ++ p :: R) p.1 = some p.2 := (lookL_iff (hs.nodup ltB_ok)).2 (by simp)
theorem crash_spec {keep : Sl} {L : List Int} {c0 : Chunk} {i : Nat} (h : Holds (dsk d size F :: cs) H) (g : Gives c0 fun A => Ints A keep L) (ei : cs[i]? = some c0) (hw : ∀ n ∈ L, -9223372036854775808 ≤ n ∧ n ≤ 9223372036854775807)
    (k : ∀ H', Holds (dsk d size (crashF L F) :: cs) H' → K (.tuple #[]) H') : FnH Tryz.prog 18 #[.pointer (some ⟨d, 0, none⟩), .slice keep.p keep.n keep.c] H K := by
  apply disk_Disk_Crash_fn
  unfold disk_Disk_Crash_vc
  refine names_spec h fun s H1 h1 => ⟨s, rfl, ?_⟩
  have hlenF : s.n = F.length := by
    have := (h1.own 0 rfl).1
    rw [flat_len eSlen, List.length_map] at this; omega
  have hfew : F.length ≤ 256 := by
    obtain ⟨mb, fs, ⟨hB, hp⟩, -⟩ := dsk_open.1 h
    exact hB.few
  refine ⟨fun kp m H => ∃ D L', Holds (ownS s (F.map Prod.fst) :: dsk d size (D ++ F.drop m.toNat) :: cs) H ∧ Gives c0 (fun A => Ints A kp L') ∧ (∀ n ∈ L', -9223372036854775808 ≤ n ∧ n ≤ 9223372036854775807) ∧ 0 ≤ m ∧ m ≤ s.n ∧ crashF L F = D ++ crashF L' (F.drop m.toNat), fun _ m _ => (s.n - m).toNat,
    ⟨[], L, h1, g, hw, Int.le_refl _, by omega, rfl⟩, ?_⟩
  rintro kp m H2 ⟨D, L', h2, g2, hw2, m0, m1, hc⟩
  refine br_intro (fun q => ?_) (fun q => ?_)
  · have q := of_decide_eq_true q
    have hm : m.toNat < F.length := by omega
    have hR : Recs eS H2 s (F.map Prod.fst) := Own.recs eSlen (by decide) (h2.own 0 rfl) (by rw [List.length_map]; omega)
    obtain ⟨q1, o1, a, e1, e2, e3⟩ := Recs.getS hR m0 q
    have ed := List.drop_eq_getElem_cons hm
    generalize hp : F[m.toNat] = p at ed
    have ea : a = p.1 := by
      rw [List.getElem?_map, List.getElem?_eq_getElem hm, hp] at e2
      exact (Option.some.inj e2).symm
    subst ea
    have em : (m + 1).toNat = m.toNat + 1 := by omega
    rw [ed] at h2 hc
    obtain ⟨mb, fs, ⟨hB, hp2⟩, h3⟩ := dsk_open.1 h2.swap
    have hn := hB.sorted.nodup ltB_ok
    have hlook := look_mid hB.sorted
    have hsafe := hB.safe p (by simp)
    have huse := useF_le (F := D ++ p :: F.drop (m.toNat + 1)) (p := p) (by simp)
    have hB1 := hB.use
    have hB2 := hB.s1
    refine ⟨q1, o1, e1, m0, q, _, e3, some mb, h3.cell 0 rfl rfl, runH_lookup1 uDkMap kstr zDkFile (h3.map 1 rfl) (k := p.1) ?_⟩
    rw [getV hp2 hn]
    have eg : getF (D ++ p :: F.drop (m.toNat + 1)) p.1 = p.2 := by unfold getF; rw [hlook]; rfl
    rw [eg]
    refine ⟨_, _, rfl, ?_⟩
    rw [wrap64_id (n := (p.2.1.size : Int) - p.2.2) (by omega) (by omega), wrap64_id (n := m + 1) (by omega) (by omega)]
    rw [crashF_cons] at hc
    refine br_intro (fun q2 => ?_) (fun q2 => ?_)
    · rw [if_pos (by simpa using q2)] at hc
      refine ⟨rfl, ⟨D ++ [p], L', ?_, g2, hw2, by omega, by omega, ?_⟩, by dsimp only; omega⟩
      · rw [em, List.append_assoc]; exact h2
      · rw [em, hc]; simp
    rw [if_neg (by simpa using q2)] at hc
    have q2 : ¬ (p.2.1.size : Int) - p.2.2 = 0 := by simpa using q2
    rw [wrap64_id (n := (p.2.1.size : Int) - p.2.2 + 1) (by omega) (by omega)]
    have stepK : ∀ (x : Int) (kp2 : Sl), Gives c0 (fun A => Ints A kp2 (L'.drop 1)) → x = L'.headD 0 → (-9223372036854775808 ≤ x ∧ x ≤ 9223372036854775807) → ∀ {X : Heap → Prop}, (∀ H5, (∃ D2 L2, Holds (ownS s (F.map Prod.fst) :: dsk d size (D2 ++ F.drop (m + 1).toNat) :: cs) H5 ∧ Gives c0 (fun A => Ints A kp2 L2) ∧ (∀ n ∈ L2, -9223372036854775808 ≤ n ∧ n ≤ 9223372036854775807) ∧ 0 ≤ m + 1 ∧ m + 1 ≤ s.n ∧ crashF L F = D2 ++ crashF L2 (F.drop (m + 1).toNat)) → X H5) →
        ∀ y : Int, y = pickI x ((p.2.1.size : Int) - p.2.2 + 1) → (p.2.1.size : Int) - p.2.2 + 1 ≠ 0 ∧ 0 ≤ IntKind.wrap .i64 (p.2.2 + y) ∧ IntKind.wrap .i64 (p.2.2 + y) ≤ (p.2.1.size : Int) ∧
          FnH Tryz.prog 49 #[.pointer (some ⟨d, 0, none⟩), .string p.1, .agg #[.string (p.2.1.extract (Int.toNat 0) (Int.toNat (IntKind.wrap .i64 (p.2.2 + y)))), .int .i64 (IntKind.wrap .i64 (p.2.2 + y))]] H2 fun r H5 => r = .tuple #[] ∧ X H5 := fun x kp2 g3 hx hxw X hX y hy => by
      obtain ⟨y0, y1⟩ := pickI_in (c := x) (n := (p.2.1.size : Int) - p.2.2 + 1) (by omega) hxw.1 hxw.2
      rw [← hy] at y0 y1
      rw [wrap64_id (by omega) (by omega)]
      refine ⟨by omega, by omega, by omega, put_spec (F := D ++ p :: F.drop (m.toNat + 1)) (f := (p.2.1.extract 0 (p.2.2 + y).toNat, p.2.2 + y)) h2.swap (hB.ins (hB.names p (by simp)) (fun e => by rw [hlook] at e; cases e) ?_ ?_) fun H5 h5 => ⟨rfl, hX H5 ⟨D ++ [(p.1, p.2.1.extract 0 (p.2.2 + y).toNat, p.2.2 + y)], L'.drop 1, ?_, g3, fun n hn => hw2 n (List.mem_of_mem_drop hn), by omega, by omega, ?_⟩⟩⟩
      · rw [eg]; dsimp only; rw [ext_size (by omega)]; omega
      · dsimp only; rw [ext_size (by omega)]; omega
      · rw [ins_mid hB.sorted] at h5
        rw [em, List.append_assoc]; exact h5.swap
      · rw [em, hc, hy, hx]; simp
    have hnil : Ints H2 kp L' := g2.at_ h2 (i + 2) (by simpa using ei)
    have hkl := hnil.len
    refine br_intro (fun q3 => ?_) (fun q3 => ?_)
    · have q3 := of_decide_eq_true q3
      obtain ⟨q5, o5, f1, f2, f3, f4⟩ := hnil.at_ (j := 0) (Int.le_refl _) q3
      have hd : L'.getD (Int.toNat 0) 0 = L'.headD 0 := by cases L' <;> rfl
      have hmem : L'.headD 0 ∈ L' := by
        cases L' with
        | nil => simp at hkl; omega
        | cons x l => exact List.mem_cons_self
      have hx := hw2 _ hmem
      have g3 : Gives c0 (fun A => Ints A (kp.from_ 1 1) (L'.drop 1)) := ⟨g2.mono, fun A hA => (g2.give A hA).from_ (by decide) (by omega)⟩
      rw [hd] at f4
      refine ⟨q5, o5, f1, f2, f3, _, f4, by decide, by omega, br_intro (fun q4 => ?_) (fun q4 => ?_)⟩
      · exact stepK (L'.headD 0) (kp.from_ 1 1) g3 rfl hx (fun H5 z => ⟨rfl, z, by dsimp only; omega⟩) _ (by unfold pickI; rw [if_pos (of_decide_eq_true q4)])
      · exact stepK (L'.headD 0) (kp.from_ 1 1) g3 rfl hx (fun H5 z => ⟨rfl, z, by dsimp only; omega⟩) _ (by unfold pickI; rw [if_neg (of_decide_eq_false q4)])
    · have q3 := of_decide_eq_false q3
      have e0 : L' = [] := List.length_eq_zero_iff.1 (by omega)
      subst e0
      refine br_intro (fun q4 => by have := of_decide_eq_true q4; omega) (fun q4 => ?_)
      exact stepK 0 kp g2 rfl (by omega) (fun H5 z => ⟨rfl, z, by dsimp only; omega⟩) _ (by unfold pickI; rw [if_neg (by omega)])
  · have q := of_decide_eq_false q
    have e : F.drop m.toNat = [] := List.drop_eq_nil_of_le (by omega)
    rw [e] at hc h2
    have e2 : crashF L' [] = [] := by cases L' <;> rfl
    rw [e2, List.append_nil] at hc
    rw [List.append_nil] at h2
    rw [hc] at k
    exact k H2 h2.tail
end
end Go.Proofs.YtokceblmbmajgaaGreatDoor
