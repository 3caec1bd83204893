/- Chapter 1: the library's functions; a disk as it lies in memory. -/
import Derived.Test.YtldaflbdldepnaaDoorLays
import Derived.Test.YtldaflbdldepnaaDoorHlSorted
import Derived.Test.YtldaflbdldepnaaDoorHlAssoc
import Derived.Test.YtldaflbdldepnaaDoorV1
import Derived.Sort.Walk0
namespace Go.Proofs.YtldaflbdldepnaaDoor
open Go Go.HL Go.RowKit Go.Maps Go.Shelf
set_option maxRecDepth 10000
set_option maxHeartbeats 800000

theorem sortsA (m : Nat) : AnyZ.SortsIn Tryd.prog Tryd.sortedA_ren Fence.wide m :=
  ⟨fun blk off cap ss W hH hblk hsz => callsIn_wide.2 (AnyM.slices_Sort_string Tryd.sortA blk off cap ss W hH hblk hsz),
   fun p cap W => callsIn_wide.2 (AnyM.slices_Sort_string_none Tryd.sortA p cap W)⟩
abbrev encS : ByteArray → Value := fun s => .string s
theorem keys_spec {cs : List Chunk} {H : Heap} {b : Nat} {K : Value → Heap → Prop} (h : HL.Holds cs H) (k : ∀ q H', HL.Holds (blk q (.cells #[.map (some b)] 55 (0, 0)) :: cs) H' → K (.func (.func 51) #[] #[.pointer (some ⟨q, 0, none⟩)]) H') :
    FnH Tryd.prog 32 #[.map (some b)] H K :=
  keys_fn (T := 55) (g := 51) (fun w => (callsIn_wide (n := 5)).1 (AnyZ.keys_in Tryd.keysA Fence.wide 5 trivial rfl (some b) w)) h k
theorem sorted_spec {cs : List Chunk} {H : Heap} {q b : Nat} {l : List (ByteArray × Value)} {K : Value → Heap → Prop} (h : HL.Holds (blk q (.cells #[.map (some b)] 55 (0, 0)) :: mp b encS l :: cs) H) (hn : (l.map Prod.fst).Nodup) (hlen : l.length ≤ 268435456)
    (hwf : ∀ x ∈ l.map Prod.fst, x.size ≤ 9223372036854775807)
    (k : ∀ (s : Sl) H', HL.Holds (HL.own 9 1 s ((((l.map Prod.fst).map fun x => x.data.toList).mergeSort fun x y => decide (x ≤ y)).map Go.Proofs.encStr) :: mp b encS l :: cs) H' → K (.slice s.p s.n s.c) H') :
    FnH Tryd.prog 31 #[.func (.func 51) #[] #[.pointer (some ⟨q, 0, none⟩)]] H K :=
  sortedStr_fn (g := 51) (kt := 9) (by kernel_rfl)
    (fun Bm b nn D0 w hBm hm hown => AnyZ.keys_gives (ρ := Tryd.keysA_ren) { Tryd.keysA with } Fence.wide _ trivial rfl (by omega) Bm b nn D0 w hBm hm hown)
    (fun lb S N w hN hNb hseq => (callsIn_wide (n := 5)).1 (AnyZ.sorted_in Tryd.sortedA Fence.wide 5 trivial trivial trivial trivial rfl (by omega) (sortsA _) (enters_of Tryd.func50 (by kernel_rfl) rfl) 51 lb trivial (enters_of Tryd.func51 (by kernel_rfl) rfl) S N hN hNb w hseq))
    h hn hlen hwf k
theorem mclone_spec {cs : List Chunk} {H : Heap} {b : Nat} {l : List (ByteArray × Value)} {K : Value → Heap → Prop} (h : HL.Holds (mp b encS l :: cs) H) (k : ∀ q H', HL.Sub H H' → HL.Holds (mp q encS l :: mp b encS l :: cs) H' → K (.map (some q)) H') : FnH Tryd.prog 47 #[.map (some b)] H K :=
  clone_fn (fun es clock w hb => AnyW.maps_Clone Tryd.cloneA b es clock w hb) h k
theorem trim_fn {s cutset : ByteArray} {H : Heap} {K : Value → Heap → Prop} (hs : s.size ≤ 9223372036854775807) (hcs : cutset.size < 4294967281) (ha : ∀ (j : Nat) (b : UInt8), cutset.data.toList[j]? = some b → b.toNat < 128)
    (k : K (.string ⟨(Lib.trimS s.data.toList cutset.data.toList).toArray⟩) H) : FnH Tryd.prog 58 #[.string s, .string cutset] H K :=
  FnH.of_below (fun w => Any.strings_Trim_laid Tryd.lays160 (by kernel_rfl) s cutset w hs hcs ha) k

/-! ### names -/
theorem dropWhile_all {α : Type} {p : α → Bool} : ∀ {l : List α}, l.dropWhile p = [] ↔ ∀ a ∈ l, p a = true := by
  intro l
  induction l with
  | nil => simp
  | cons a l ih =>
    rw [List.dropWhile_cons]
    split
    · rename_i q; rw [ih]; simp [q]
    · rename_i q; simp [q]
theorem dropWhile_first {α : Type} {p : α → Bool} : ∀ {l : List α} {a : α} {t : List α}, l.dropWhile p = a :: t → p a = false := by
  intro l
  induction l with
  | nil => intro a t h; simp at h
  | cons b l ih =>
    intro a t h
    rw [List.dropWhile_cons] at h
    split at h
    · exact ih h
    · rename_i q
      simp only [List.cons.injEq] at h
      rw [← h.1]; simpa using q
theorem trim_nil {l cs : List UInt8} : Lib.trimS l cs = [] ↔ (l.all fun b => cs.contains b) = true := by
  unfold Lib.trimS Lib.trimLeftS Lib.trimRightS
  rw [dropWhile_all, List.all_eq_true]
  constructor
  · intro h
    have h1 : (l.reverse.dropWhile fun x => cs.contains x) = [] := by
      cases e : l.reverse.dropWhile fun x => cs.contains x with
      | nil => rfl
      | cons a t =>
        have := h a (by rw [e]; simp)
        have h2 : cs.contains a = false := by
          exact dropWhile_first e
        rw [h2] at this; cases this
    have := dropWhile_all.1 h1
    intro a ha
    exact this a (by simpa using ha)
  · intro h
    have : (l.reverse.dropWhile fun x => cs.contains x) = [] := dropWhile_all.2 fun a ha => h a (by simpa using ha)
    rw [this]; simp
theorem bytes_nil (s : ByteArray) : (s.toList == (⟨#[]⟩ : ByteArray).toList) = decide (s.size = 0) := by
  rw [ByteArray.toList_eq, ByteArray.toList_eq]
  have : s.size = s.data.toList.length := (Array.length_toList).symm
  have e2 : (⟨#[]⟩ : ByteArray).data.toList = [] := rfl
  rw [this, e2]
  cases s.data.toList with
  | nil => rfl
  | cons a l => rw [decide_eq_false (by simp)]; rfl
/-- The bytes that a name may have. -/
def nameCut : List UInt8 := [97, 98, 99, 100, 101, 102, 103, 104, 105, 106, 107, 108, 109, 110, 111, 112, 113, 114, 115, 116, 117, 118, 119, 120, 121, 122, 48, 49, 50, 51, 52, 53, 54, 55, 56, 57, 45, 46]
def namedB (s : ByteArray) : Bool := decide (s.size ≠ 0) && decide (s.size ≤ 64) && s.data.toList.all fun b => nameCut.contains b
theorem named_spec {s : ByteArray} {H : Heap} {K : Value → Heap → Prop} (k : K (.bool (namedB s)) H) : FnH Tryd.prog 48 #[.string s] H K := by
  apply disk_named_fn
  unfold disk_named_vc
  rw [bytes_nil]
  unfold namedB at k
  refine br_intro (fun q => br_intro (fun q2 => ?_) (fun q2 => ?_)) (fun q => ?_)
  · have q : ¬ s.size = 0 := by simpa using q
    have q2 := of_decide_eq_true q2
    rw [decide_eq_true q, decide_eq_true (show s.size ≤ 64 by omega)] at k
    refine trim_fn (by omega) (by decide) (fun j b hj => ?_) ⟨_, rfl, ?_⟩
    · have hm := List.mem_of_getElem? hj
      have : ∀ b ∈ nameCut, b.toNat < 128 := by decide
      exact this b hm
    · rw [bytes_nil]
      have e : ((⟨(Lib.trimS s.data.toList nameCut).toArray⟩ : ByteArray).size = 0) ↔ (s.data.toList.all fun b => nameCut.contains b) = true := by
        rw [← trim_nil]
        show ((Lib.trimS s.data.toList nameCut).toArray.size = 0) ↔ _
        simp
      have e2 : decide ((⟨(Lib.trimS s.data.toList nameCut).toArray⟩ : ByteArray).size = 0) = (s.data.toList.all fun b => nameCut.contains b) := by
        rw [Bool.eq_iff_iff, decide_eq_true_eq]; exact e
      show K (.bool (decide ((⟨(Lib.trimS s.data.toList nameCut).toArray⟩ : ByteArray).size = 0))) H
      rw [e2]
      simpa using k
  · have q2 := of_decide_eq_false q2
    rw [decide_eq_false (show ¬ s.size ≤ 64 by omega)] at k; simpa using k
  · have q : s.size = 0 := by simpa using q
    rw [decide_eq_false (show ¬ s.size ≠ 0 by simp [q])] at k; simpa using k
theorem namedB_size {s : ByteArray} (h : namedB s = true) : s.size ≤ 64 := by
  unfold namedB at h
  simp only [Bool.and_eq_true, decide_eq_true_eq] at h
  exact h.1.2
/-- Go's '<' on strings. -/
def ltB (x y : ByteArray) : Bool := Op.bytesLess x.toList y.toList
theorem bytes_ext {x y : ByteArray} (h : x.toList = y.toList) : x = y := by
  rw [ByteArray.toList_eq, ByteArray.toList_eq] at h
  exact Go.WideShapes.bytes_inj h
theorem ltB_iff {x y : ByteArray} : ltB x y = true ↔ x.data.toList < y.data.toList := by
  unfold ltB
  rw [Go.Proofs.bytesLess_eq, ByteArray.toList_eq, ByteArray.toList_eq, decide_eq_true_eq]
theorem ltB_ok : LtOK ltB where
  irr a := by
    cases e : ltB a a with
    | false => rfl
    | true => exact absurd (ltB_iff.1 e) (List.lt_irrefl _)
  trans a b c h1 h2 := ltB_iff.2 (List.lt_trans (ltB_iff.1 h1) (ltB_iff.1 h2))
  tri a b h := by
    by_cases q : ltB a b = true
    · exact .inl q
    · right
      refine ltB_iff.2 ?_
      have h1 : ¬ a.data.toList < b.data.toList := fun z => q (ltB_iff.2 z)
      have h2 : b.data.toList ≤ a.data.toList := List.not_lt.1 h1
      rcases List.le_iff_lt_or_eq.1 h2 with z | z
      · exact z
      · exact absurd (Go.WideShapes.bytes_inj z).symm h
/-! ### a disk in memory -/
/-- A file's bytes, and how many of them are safe. -/
abbrev Fi := ByteArray × Int
abbrev Fs := List (ByteArray × Fi)
abbrev fiV (f : Fi) : Value := .agg #[.string f.1, .int .i64 f.2]
abbrev fmap (fs : Fs) : List (ByteArray × Value) := fs.map fun p => (p.1, fiV p.2)
def f0 : Fi := (⟨#[]⟩, 0)
def useF (F : Fs) : Int := sumL (fun f : Fi => (f.1.size : Int)) F
abbrev getF (F : Fs) (n : ByteArray) : Fi := (lookL F n).getD f0
structure DkB (size : Int) (F : Fs) : Prop where
  s0 : 1 ≤ size
  s1 : size ≤ 16777216
  sorted : SortedL ltB F
  use : useF F ≤ size
  few : F.length ≤ 256
  names : ∀ p ∈ F, namedB p.1 = true
  safe : ∀ p ∈ F, 0 ≤ p.2.2 ∧ p.2.2 ≤ p.2.1.size
def dsk (d : Nat) (size : Int) (F : Fs) : Chunk := fun H => ∃ q : Nat × Fs, (DkB size F ∧ q.2.Perm F) ∧ HL.Holds [blk d (.cells #[.int .i64 size, .int .i64 (useF F), .map (some q.1)] 57 (0, 0)), mp q.1 encS (fmap q.2)] H
theorem dsk_mono {d : Nat} {size : Int} {F : Fs} : Mono (dsk d size F) := fun _ _ hs ⟨q, e, h⟩ => ⟨q, e, h.up hs⟩
theorem dsk_open {cs : List Chunk} {H : Heap} {d : Nat} {size : Int} {F : Fs} : HL.Holds (dsk d size F :: cs) H ↔ ∃ mb fs, (DkB size F ∧ List.Perm fs F) ∧ HL.Holds (blk d (.cells #[.int .i64 size, .int .i64 (useF F), .map (some mb)] 57 (0, 0)) :: mp mb encS (fmap fs) :: cs) H := by
  constructor
  · intro h
    obtain ⟨q, h⟩ := Holds.ex.1 h
    obtain ⟨e, h⟩ := Holds.pure.1 h
    exact ⟨q.1, q.2, e, Holds.flat.1 h⟩
  · rintro ⟨mb, ps, e, h⟩
    exact Holds.ex.2 ⟨(mb, ps), Holds.pure.2 ⟨e, Holds.flat.2 h⟩⟩
theorem look_fmap {fs : Fs} {n : ByteArray} : lookL (fmap fs) n = (lookL fs n).map fiV := lookL_map (f := fiV)
theorem useF_cons (a : ByteArray × Fi) (F : Fs) : useF (a :: F) = (a.2.1.size : Int) + useF F := by simp [useF, sumL]
theorem useF_append (A B : Fs) : useF (A ++ B) = useF A + useF B := by simp [useF, sumL]
theorem useF_nonneg (F : Fs) : 0 ≤ useF F := by
  induction F with
  | nil => exact Int.le_refl _
  | cons p F ih => rw [useF_cons]; omega
theorem useF_le {F : Fs} {p : ByteArray × Fi} (h : p ∈ F) : (p.2.1.size : Int) ≤ useF F := by
  induction F with
  | nil => simp at h
  | cons a F ih =>
    have h0 := useF_nonneg F
    rw [useF_cons]
    rcases List.mem_cons.1 h with q | q
    · subst q; omega
    · have := ih q; omega
theorem useF_ins {F : Fs} (hs : SortedL ltB F) (n : ByteArray) (f : Fi) : useF (insL ltB F n f) = useF F - (getF F n).1.size + f.1.size := by
  have := sumL_ins ltB_ok (f := fun f : Fi => (f.1.size : Int)) hs (k := n) (v := f) (d := f0) rfl
  unfold useF; rw [this]
theorem useF_del {F : Fs} (hs : SortedL ltB F) (n : ByteArray) : useF (delL F n) = useF F - (getF F n).1.size := by
  have := sumL_del (f := fun f : Fi => (f.1.size : Int)) (hs.nodup ltB_ok) (k := n) (d := f0) rfl
  unfold useF; rw [this]
theorem getF_mem {F : Fs} {n : ByteArray} {f : Fi} (h : lookL F n = some f) : (n, f) ∈ F := by
  obtain ⟨i, hi⟩ := lookL_idx h
  exact List.mem_of_getElem? (idxL_get hi)
theorem DkB.get {size : Int} {F : Fs} (h : DkB size F) (n : ByteArray) : ((getF F n).1.size : Int) ≤ useF F ∧ 0 ≤ (getF F n).2 ∧ (getF F n).2 ≤ (getF F n).1.size := by
  have h0 := useF_nonneg F
  unfold getF
  cases e : lookL F n with
  | none => exact ⟨h0, Int.le_refl _, Int.le_refl _⟩
  | some f => exact ⟨useF_le (getF_mem e), h.safe _ (getF_mem e)⟩
theorem isN_of {α : Type} {o : Option α} (h : (!o.isSome) = true) : o = none := by cases o <;> simp_all
theorem isS_of {α : Type} {o : Option α} (h : (!o.isSome) = false) : ¬ o = none := by cases o <;> simp_all
theorem u55 : Tryd.prog.underlying 55 = some (.map 9 59) := by kernel_rfl
theorem kstr : KeyOK Tryd.prog 9 encS := KeyOK.str (by kernel_rfl)
theorem z59 : zeroT Tryd.prog 59 = some (fiV f0) := by kernel_rfl
theorem getV {F fs : Fs} (hp : List.Perm fs F) (hn : (F.map Prod.fst).Nodup) (n : ByteArray) : (lookL (fmap fs) n).getD (fiV f0) = fiV (getF F n) := by
  rw [look_fmap, look_perm hp ((hp.map Prod.fst).nodup_iff.2 hn)]
  unfold getF
  cases lookL F n <;> rfl
theorem hasV {F fs : Fs} (hp : List.Perm fs F) (hn : (F.map Prod.fst).Nodup) (n : ByteArray) : (lookL (fmap fs) n).isSome = (lookL F n).isSome := by
  rw [look_fmap, look_perm hp ((hp.map Prod.fst).nodup_iff.2 hn)]
  cases lookL F n <;> rfl
theorem free_spec {cs : List Chunk} {H : Heap} {d : Nat} {size : Int} {F : Fs} {i : Nat} {K : Value → Heap → Prop} (h : HL.Holds cs H) (ei : cs[i]? = some (dsk d size F)) (k : K (.int .i64 (size - useF F)) H) : FnH Tryd.prog 18 #[.pointer (some ⟨d, 0, none⟩)] H K := by
  apply disk_Disk_Free_fn
  unfold disk_Disk_Free_vc
  obtain ⟨⟨mb, fs⟩, ⟨hB, hp⟩, hh⟩ := h.read i ei dsk_mono
  refine ⟨size, hh.cell 0 rfl rfl, _, hh.cell 0 rfl rfl, ?_⟩
  have h0 := useF_nonneg F
  have := hB.use; have := hB.s1
  rw [wrap64_id (by omega) (by omega)]; exact k
end Go.Proofs.YtldaflbdldepnaaDoor
