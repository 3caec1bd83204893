/- Chapter 1: the disk's calls. -/
import Derived.Test.YtldaflbdldepnaaDoorS1
namespace Go.Proofs.YtldaflbdldepnaaDoor
open Go Go.HL
set_option maxRecDepth 10000
set_option maxHeartbeats 800000

section
variable {cs : List Chunk} {H : Heap} {d : Nat} {size : Int} {F : Fs} {K : Value → Heap → Prop} {n b : ByteArray}
theorem put_spec {f : Fi} (h : Holds (dsk d size F :: cs) H) (hb : DkB size (insL ltB F n f)) (k : ∀ H', Holds (dsk d size (insL ltB F n f) :: cs) H' → K (.tuple #[]) H') :
    FnH Tryd.prog 30 #[.pointer (some ⟨d, 0, none⟩), .string n, fiV f] H K := by
  apply disk_Disk_put_fn
  unfold disk_Disk_put_vc
  obtain ⟨mb, fs, ⟨hB, hp⟩, h⟩ := dsk_open.1 h
  have hn := hB.sorted.nodup ltB_ok
  refine ⟨_, h.cell 0 rfl rfl, some mb, h.cell 0 rfl rfl, runH_lookup1 u55 kstr z59 (h.map 1 rfl) (k := n) ?_⟩
  rw [getV hp hn]
  have g := hB.get n
  have h0 := useF_nonneg F
  have h1 := hB.use; have h2 := hB.s1
  have eu := useF_ins hB.sorted n f
  have h3 := hb.use
  have h4 := useF_nonneg (insL ltB F n f)
  refine ⟨_, _, rfl, HL.Sub.refl _, ?_⟩
  rw [wrap64_id (n := (f.1.size : Int) - ((getF F n).1.size : Int)) (by omega) (by omega), wrap64_id (by omega) (by omega)]
  have e1 : useF F + ((f.1.size : Int) - ((getF F n).1.size : Int)) = useF (insL ltB F n f) := by omega
  rw [e1]
  refine Holds.store h 0 rfl (by simp) fun H1 h1 => ⟨some mb, h1.cell 0 rfl rfl, Holds.update h1 1 rfl u55 kstr fun H2 h2 => k H2 (dsk_open.2 ⟨mb, putL fs n f, ⟨hb, put_ins ltB_ok hp hB.sorted n f⟩, ?_⟩)⟩
  have e2 : fmap (putL fs n f) = putL (fmap fs) n (fiV f) := (putL_map (f := fiV)).symm
  rw [e2]; exact h2
/-- May a file be made, if there is none? -/
def roomC (F : Fs) (n : ByteArray) : Int := if namedB n = false then 1 else if lookL F n = none ∧ F.length ≥ 256 then 3 else 0
theorem room_spec {i : Nat} (h : Holds cs H) (ei : cs[i]? = some (dsk d size F)) (k : K (.int .i64 (roomC F n)) H) : FnH Tryd.prog 29 #[.pointer (some ⟨d, 0, none⟩), .string n] H K := by
  apply disk_Disk_room_fn
  unfold disk_Disk_room_vc
  obtain ⟨⟨mb, fs⟩, ⟨hB, hp⟩, hh⟩ := h.read i ei dsk_mono
  have hn := hB.sorted.nodup ltB_ok
  unfold roomC at k
  refine named_spec ⟨_, rfl, br_intro (fun q => ?_) (fun q => ?_)⟩
  · rw [if_pos (by simpa using q)] at k; exact k
  rw [if_neg (by simpa using q)] at k
  refine ⟨some mb, hh.cell 0 rfl rfl, runH_lookup u55 kstr z59 (hh.map 1 rfl) (k := n) ?_⟩
  rw [getV hp hn, hasV hp hn]
  refine ⟨_, _, _, rfl, br_intro (fun q2 => ?_) (fun q2 => ?_)⟩
  · have q2 : lookL F n = none := isN_of q2
    refine ⟨some mb, hh.cell 0 rfl rfl, Holds.lenM hh 1 rfl ?_⟩
    have el : (fmap fs).length = F.length := by rw [List.length_map]; exact hp.length_eq
    rw [el]
    refine br_intro (fun q3 => ?_) (fun q3 => ?_)
    · have q3 := of_decide_eq_true q3
      rw [if_pos ⟨q2, by omega⟩] at k; exact k
    · have q3 := of_decide_eq_false q3
      rw [if_neg (fun z => by omega)] at k; exact k
  · have q2 : ¬ lookL F n = none := isS_of q2
    rw [if_neg (fun z => q2 z.1)] at k; exact k
theorem read_spec {i : Nat} (h : Holds cs H) (ei : cs[i]? = some (dsk d size F)) (k : K (.tuple #[.string (getF F n).1, .int .i64 (if lookL F n = none then 8 else 0)]) H) : FnH Tryd.prog 16 #[.pointer (some ⟨d, 0, none⟩), .string n] H K := by
  apply disk_Disk_Read_fn
  unfold disk_Disk_Read_vc
  obtain ⟨⟨mb, fs⟩, ⟨hB, hp⟩, hh⟩ := h.read i ei dsk_mono
  have hn := hB.sorted.nodup ltB_ok
  refine ⟨some mb, hh.cell 0 rfl rfl, runH_lookup u55 kstr z59 (hh.map 1 rfl) (k := n) ?_⟩
  rw [getV hp hn, hasV hp hn]
  refine ⟨_, _, _, rfl, br_intro (fun q => ?_) (fun q => ?_)⟩
  · have q : lookL F n = none := isN_of q
    unfold getF at k
    rw [if_pos q, q] at k; exact k
  · have q : ¬ lookL F n = none := isS_of q
    rw [if_neg q] at k; exact k
theorem synced_spec {i : Nat} (h : Holds cs H) (ei : cs[i]? = some (dsk d size F)) (k : K (.int .i64 (getF F n).2) H) : FnH Tryd.prog 17 #[.pointer (some ⟨d, 0, none⟩), .string n] H K := by
  apply disk_Disk_Synced_fn
  unfold disk_Disk_Synced_vc
  obtain ⟨⟨mb, fs⟩, ⟨hB, hp⟩, hh⟩ := h.read i ei dsk_mono
  refine ⟨some mb, hh.cell 0 rfl rfl, runH_lookup1 u55 kstr z59 (hh.map 1 rfl) (k := n) ?_⟩
  rw [getV hp (hB.sorted.nodup ltB_ok)]
  exact ⟨_, _, rfl, k⟩
theorem size_spec {i : Nat} (h : Holds cs H) (ei : cs[i]? = some (dsk d size F)) (k : K (.int .i64 (getF F n).1.size) H) : FnH Tryd.prog 26 #[.pointer (some ⟨d, 0, none⟩), .string n] H K := by
  apply disk_Disk_Size_fn
  unfold disk_Disk_Size_vc
  obtain ⟨⟨mb, fs⟩, ⟨hB, hp⟩, hh⟩ := h.read i ei dsk_mono
  refine ⟨some mb, hh.cell 0 rfl rfl, runH_lookup1 u55 kstr z59 (hh.map 1 rfl) (k := n) ?_⟩
  rw [getV hp (hB.sorted.nodup ltB_ok)]
  exact ⟨_, _, rfl, k⟩
theorem dnew_spec (h : Holds cs H) (k0 : (size < 1 ∨ size > 16777216) → K (.tuple #[.pointer none, .int .i64 1]) H) (k : 1 ≤ size → size ≤ 16777216 → ∀ d H', Holds (dsk d size [] :: cs) H' → K (.tuple #[.pointer (some ⟨d, 0, none⟩), .int .i64 0]) H') : FnH Tryd.prog 12 #[.int .i64 size] H K := by
  apply disk_New_fn
  unfold disk_New_vc
  refine br_intro (fun q => k0 (.inl (of_decide_eq_true q))) (fun q => br_intro (fun q2 => k0 (.inr (of_decide_eq_true q2))) (fun q2 => ?_))
  have q := of_decide_eq_false q
  have q2 := of_decide_eq_false q2
  refine h.newMap encS fun mb H1 h1 => h1.new fun d H2 h2 => k (by omega) (by omega) d H2 (dsk_open.2 ⟨mb, [], ⟨⟨by omega, by omega, List.Pairwise.nil, ?_, by simp, by simp, by simp⟩, List.Perm.refl _⟩, h2⟩)
  show (0 : Int) ≤ size
  omega
theorem DkB.ins (hB : DkB size F) {f : Fi} (hn : namedB n = true) (hlen : lookL F n = none → F.length < 256) (hu : useF F - (getF F n).1.size + f.1.size ≤ size) (hs : 0 ≤ f.2 ∧ f.2 ≤ f.1.size) : DkB size (insL ltB F n f) := by
  refine ⟨hB.s0, hB.s1, insL_sorted ltB_ok hB.sorted, by rw [useF_ins hB.sorted]; exact hu, ?_, fun p hp => ?_, fun p hp => ?_⟩
  · have hp := (insL_perm ltB_ok hB.sorted (k := n) (v := f)).length_eq
    rw [List.length_cons] at hp
    cases e : lookL F n with
    | none =>
      have := hlen e
      have h2 : (delL F n).length ≤ F.length := delL_sub.length_le
      omega
    | some v =>
      have : (delL F n).length < F.length := by
        obtain ⟨i, hi⟩ := lookL_idx e
        rw [delL_erase hi]
        have := (List.getElem?_eq_some_iff.1 (idxL_get hi)).1
        rw [List.length_eraseIdx]; split <;> omega
      have := hB.few
      omega
  · rcases insL_keys hp with e | e
    · rw [e]; exact hn
    · exact hB.names p e
  · rcases insL_keys hp with e | e
    · rw [e]; exact hs
    · exact hB.safe p e
theorem DkB.del (hB : DkB size F) : DkB size (delL F n) :=
  ⟨hB.s0, hB.s1, delL_sorted hB.sorted, by rw [useF_del hB.sorted]; have := hB.use; omega, Nat.le_trans delL_sub.length_le hB.few, fun p hp => hB.names p (delL_sub.subset hp), fun p hp => hB.safe p (delL_sub.subset hp)⟩
theorem DkB.named (hB : DkB size F) {f : Fi} (h : lookL F n = some f) : namedB n = true := hB.names _ (getF_mem h)
theorem roomC_ok (h : roomC F n = 0) : namedB n = true ∧ (lookL F n = none → F.length < 256) := by
  unfold roomC at h
  split at h
  · cases h
  · rename_i q
    split at h
    · cases h
    · rename_i q2
      refine ⟨by simpa using q, fun e => ?_⟩
      have : ¬ F.length ≥ 256 := fun z => q2 ⟨e, z⟩
      omega
/-- How much of a text there is room for. -/
def fitN (size : Int) (F : Fs) (b : ByteArray) : Int := if size - useF F < b.size then size - useF F else b.size
def appF (size : Int) (F : Fs) (n b : ByteArray) : Fi := ((getF F n).1 ++ b.extract 0 (fitN size F b).toNat, (getF F n).2)
def appC (size : Int) (F : Fs) (n b : ByteArray) : Int := if roomC F n ≠ 0 then roomC F n else if fitN size F b < b.size then 7 else 0
def appM (size : Int) (F : Fs) (n b : ByteArray) : Fs := if roomC F n ≠ 0 then F else insL ltB F n (appF size F n b)
theorem fitN_in (hB : DkB size F) (b : ByteArray) : 0 ≤ fitN size F b ∧ fitN size F b ≤ b.size ∧ fitN size F b ≤ size - useF F := by
  have := hB.use
  unfold fitN
  split <;> omega
theorem ext_size {b : ByteArray} {m : Nat} (h : m ≤ b.size) : (b.extract 0 m).size = m := by
  rw [ByteArray.size_extract]; omega
theorem app_ok (hB : DkB size F) (h : roomC F n = 0) : DkB size (insL ltB F n (appF size F n b)) := by
  obtain ⟨h1, h2⟩ := roomC_ok h
  obtain ⟨f1, f2, f3⟩ := fitN_in hB b
  have g := hB.get n
  have es : ((appF size F n b).1.size : Int) = (getF F n).1.size + fitN size F b := by
    unfold appF
    rw [ByteArray.size_append, ext_size (by omega)]; omega
  refine hB.ins h1 h2 (by omega) ⟨g.2.1, ?_⟩
  have : (appF size F n b).2 = (getF F n).2 := rfl
  omega
theorem append_spec (h : Holds (dsk d size F :: cs) H) (hb : b.size ≤ 9223372036854775807) (k : ∀ H', Holds (dsk d size (appM size F n b) :: cs) H' → K (.int .i64 (appC size F n b)) H') : FnH Tryd.prog 13 #[.pointer (some ⟨d, 0, none⟩), .string n, .string b] H K := by
  apply disk_Disk_Append_fn
  unfold disk_Disk_Append_vc
  obtain ⟨mb, fs, ⟨hB, hp⟩, h'⟩ := dsk_open.1 h
  have hn := hB.sorted.nodup ltB_ok
  unfold appC appM at k
  refine room_spec (i := 0) h rfl ⟨_, rfl, br_intro (fun q => ?_) (fun q => ?_)⟩
  · have q : roomC F n ≠ 0 := by simpa using q
    rw [if_pos q, if_pos q] at k; exact k H h
  have q : roomC F n = 0 := by simpa using q
  rw [if_neg (fun z => z q), if_neg (fun z => z q)] at k
  refine ⟨some mb, h'.cell 0 rfl rfl, runH_lookup1 u55 kstr z59 (h'.map 1 rfl) (k := n) ?_⟩
  rw [getV hp hn]
  refine ⟨_, _, rfl, free_spec (i := 0) h rfl ⟨_, rfl, ?_⟩⟩
  have ef : (if size - useF F < (b.size : Int) then size - useF F else (b.size : Int)) = fitN size F b := rfl
  rw [ef]
  obtain ⟨f1, f2, f3⟩ := fitN_in hB b
  have g := hB.get n
  have := hB.use; have := hB.s1
  have hs := hB.s1
  refine ⟨f1, f2, ?_, put_spec (f := appF size F n b) h (app_ok hB q) fun H1 h1 => ⟨rfl, br_intro (fun q2 => ?_) (fun q2 => ?_)⟩⟩
  · have : (b.extract (Int.toNat 0) (Int.toNat (fitN size F b))).size = (fitN size F b).toNat := ext_size (by omega)
    rw [this]; omega
  · rw [if_pos (of_decide_eq_true q2)] at k; exact k H1 h1
  · rw [if_neg (of_decide_eq_false q2)] at k; exact k H1 h1
def synM (F : Fs) (n : ByteArray) : Fs := if lookL F n = none then F else insL ltB F n ((getF F n).1, ((getF F n).1.size : Int))
theorem sync_spec (h : Holds (dsk d size F :: cs) H) (k : ∀ H', Holds (dsk d size (synM F n) :: cs) H' → K (.int .i64 (if lookL F n = none then 8 else 0)) H') : FnH Tryd.prog 14 #[.pointer (some ⟨d, 0, none⟩), .string n] H K := by
  apply disk_Disk_Sync_fn
  unfold disk_Disk_Sync_vc
  obtain ⟨mb, fs, ⟨hB, hp⟩, h'⟩ := dsk_open.1 h
  have hn := hB.sorted.nodup ltB_ok
  refine ⟨some mb, h'.cell 0 rfl rfl, runH_lookup u55 kstr z59 (h'.map 1 rfl) (k := n) ?_⟩
  rw [getV hp hn, hasV hp hn]
  unfold synM at k
  refine ⟨_, _, _, rfl, br_intro (fun q => ?_) (fun q => ?_)⟩
  · have q : lookL F n = none := isN_of q
    rw [if_pos q, if_pos q] at k; exact k H h
  · have q : ¬ lookL F n = none := isS_of q
    rw [if_neg q, if_neg q] at k
    obtain ⟨f, hf⟩ := Option.ne_none_iff_exists'.1 q
    have := hB.use
    exact put_spec (f := ((getF F n).1, ((getF F n).1.size : Int))) h (hB.ins (hB.named hf) (fun e => absurd e q) (by dsimp only; omega) ⟨by dsimp only; omega, Int.le_refl _⟩) fun H1 h1 => ⟨rfl, k H1 h1⟩
def cutC (F : Fs) (n : ByteArray) (m : Int) : Int := if lookL F n = none then 8 else if m < 0 ∨ m > (getF F n).1.size then 1 else 0
def cutM (F : Fs) (n : ByteArray) (m : Int) : Fs := if cutC F n m ≠ 0 then F else insL ltB F n ((getF F n).1.extract 0 m.toNat, if m < (getF F n).2 then m else (getF F n).2)
theorem cut_spec {m : Int} (h : Holds (dsk d size F :: cs) H) (k : ∀ H', Holds (dsk d size (cutM F n m) :: cs) H' → K (.int .i64 (cutC F n m)) H') : FnH Tryd.prog 35 #[.pointer (some ⟨d, 0, none⟩), .string n, .int .i64 m] H K := by
  apply disk_Disk_Cut_fn
  unfold disk_Disk_Cut_vc
  obtain ⟨mb, fs, ⟨hB, hp⟩, h'⟩ := dsk_open.1 h
  have hn := hB.sorted.nodup ltB_ok
  refine ⟨some mb, h'.cell 0 rfl rfl, runH_lookup u55 kstr z59 (h'.map 1 rfl) (k := n) ?_⟩
  rw [getV hp hn, hasV hp hn]
  have bad : ∀ c : Int, c ≠ 0 → cutC F n m = c → K (.int .i64 c) H := fun c c0 e => by
    have k := k H (by unfold cutM; rw [if_pos (by rw [e]; exact c0)]; exact h)
    rw [e] at k; exact k
  refine ⟨_, _, _, rfl, br_intro (fun q => ?_) (fun q => br_intro (fun q2 => ?_) (fun q2 => br_intro (fun q3 => ?_) (fun q3 => ?_)))⟩
  · have q : lookL F n = none := isN_of q
    exact bad 8 (by decide) (by unfold cutC; rw [if_pos q])
  · have q : ¬ lookL F n = none := isS_of q
    exact bad 1 (by decide) (by unfold cutC; rw [if_neg q, if_pos (.inl (of_decide_eq_true q2))])
  · have q : ¬ lookL F n = none := isS_of q
    exact bad 1 (by decide) (by unfold cutC; rw [if_neg q, if_pos (.inr (of_decide_eq_true q3))])
  · have q : ¬ lookL F n = none := isS_of q
    have q2 := of_decide_eq_false q2
    have q3 := of_decide_eq_false q3
    have e : cutC F n m = 0 := by unfold cutC; rw [if_neg q, if_neg (fun z => z.elim q2 q3)]
    unfold cutM at k
    rw [e, if_neg (fun z => z rfl)] at k
    obtain ⟨f, hf⟩ := Option.ne_none_iff_exists'.1 q
    have := hB.use
    have g := hB.get n
    have es : ((getF F n).1.extract 0 m.toNat).size = m.toNat := ext_size (by omega)
    refine ⟨by omega, by omega, put_spec (f := ((getF F n).1.extract 0 m.toNat, if m < (getF F n).2 then m else (getF F n).2)) h (hB.ins (hB.named hf) (fun e => absurd e q) ?_ ?_) fun H1 h1 => ⟨rfl, k H1 h1⟩⟩
    · dsimp only; rw [es]; omega
    · dsimp only; rw [es]; split <;> omega
def repC (size : Int) (F : Fs) (n b : ByteArray) : Int := if roomC F n ≠ 0 then roomC F n else if (b.size : Int) > size - useF F + (getF F n).1.size then 7 else 0
def repM (size : Int) (F : Fs) (n b : ByteArray) : Fs := if repC size F n b ≠ 0 then F else insL ltB F n (b, (b.size : Int))
theorem replace_spec (h : Holds (dsk d size F :: cs) H) (k : ∀ H', Holds (dsk d size (repM size F n b) :: cs) H' → K (.int .i64 (repC size F n b)) H') : FnH Tryd.prog 19 #[.pointer (some ⟨d, 0, none⟩), .string n, .string b] H K := by
  apply disk_Disk_Replace_fn
  unfold disk_Disk_Replace_vc
  obtain ⟨mb, fs, ⟨hB, hp⟩, h'⟩ := dsk_open.1 h
  have bad : repC size F n b ≠ 0 → K (.int .i64 (repC size F n b)) H := fun c0 => k H (by unfold repM; rw [if_pos c0]; exact h)
  have er : roomC F n ≠ 0 → repC size F n b = roomC F n := fun q => by unfold repC; rw [if_pos q]
  refine room_spec (i := 0) h rfl ⟨_, rfl, br_intro (fun q => ?_) (fun q => ?_)⟩
  · have q : roomC F n ≠ 0 := by simpa using q
    have bad := bad (by rw [er q]; exact q)
    rw [er q] at bad; exact bad
  have q : roomC F n = 0 := by simpa using q
  obtain ⟨h1, h2⟩ := roomC_ok q
  have := hB.use; have := hB.s1; have := useF_nonneg F
  have g := hB.get n
  refine free_spec (i := 0) h rfl ⟨_, rfl, size_spec (i := 0) h rfl ⟨_, rfl, ?_⟩⟩
  rw [wrap64_id (by omega) (by omega)]
  refine br_intro (fun q2 => ?_) (fun q2 => ?_)
  · have q2 := of_decide_eq_true q2
    have e : repC size F n b = 7 := by unfold repC; rw [if_neg (fun z => z q), if_pos q2]
    rw [e] at bad; exact bad (by decide)
  · have q2 := of_decide_eq_false q2
    have e : repC size F n b = 0 := by unfold repC; rw [if_neg (fun z => z q), if_neg q2]
    unfold repM at k
    rw [e, if_neg (fun z => z rfl)] at k
    exact put_spec (f := (b, (b.size : Int))) h (hB.ins h1 h2 (by dsimp only; omega) ⟨by dsimp only; omega, Int.le_refl _⟩) fun H1 h1 => ⟨rfl, k H1 h1⟩
def remM (F : Fs) (n : ByteArray) : Fs := if lookL F n = none then F else delL F n
theorem del_ins {f : Fi} (hs : SortedL ltB F) : delL (insL ltB F n f) n = delL F n := by
  refine sorted_eq ltB_ok ?_ (delL_sorted (insL_sorted ltB_ok hs)) (delL_sorted hs)
  rw [delL_filter ((insL_sorted ltB_ok hs).nodup ltB_ok)]
  refine ((insL_perm ltB_ok hs).filter _).trans ?_
  rw [List.filter_cons_of_neg (by simp), delL_filter (hs.nodup ltB_ok)]
  rw [List.filter_filter]
  simp
theorem remove_spec (h : Holds (dsk d size F :: cs) H) (k : ∀ H', Holds (dsk d size (remM F n) :: cs) H' → K (.int .i64 (if lookL F n = none then 8 else 0)) H') : FnH Tryd.prog 40 #[.pointer (some ⟨d, 0, none⟩), .string n] H K := by
  apply disk_Disk_Remove_fn
  unfold disk_Disk_Remove_vc
  obtain ⟨mb, fs, ⟨hB, hp⟩, h'⟩ := dsk_open.1 h
  have hn := hB.sorted.nodup ltB_ok
  refine ⟨some mb, h'.cell 0 rfl rfl, runH_lookup u55 kstr z59 (h'.map 1 rfl) (k := n) ?_⟩
  rw [getV hp hn, hasV hp hn]
  unfold remM at k
  refine ⟨_, _, _, rfl, br_intro (fun q => ?_) (fun q => ?_)⟩
  · have q : lookL F n = none := isN_of q
    rw [if_pos q, if_pos q] at k; exact k H h
  · have q : ¬ lookL F n = none := isS_of q
    rw [if_neg q, if_neg q] at k
    obtain ⟨f, hf⟩ := Option.ne_none_iff_exists'.1 q
    have := hB.use
    have e0 : f0.1.size = 0 := rfl
    refine put_spec (f := f0) h (hB.ins (hB.named hf) (fun e => absurd e q) (by rw [e0]; omega) ⟨Int.le_refl _, Int.le_refl _⟩) fun H1 h1 => ⟨rfl, ?_⟩
    obtain ⟨mb2, fs2, ⟨hB2, hp2⟩, h2⟩ := dsk_open.1 h1
    refine ⟨some mb2, h2.cell 0 rfl rfl, Holds.delete h2 1 rfl u55 kstr fun H3 h3 => ⟨rfl, k H3 (dsk_open.2 ⟨mb2, delL fs2 n, ⟨hB.del, ?_⟩, ?_⟩)⟩⟩
    · have := del_del hp2 (hB2.sorted.nodup ltB_ok) n
      rw [del_ins hB.sorted] at this; exact this
    · have eu : useF (insL ltB F n f0) = useF (delL F n) := by rw [useF_ins hB.sorted, useF_del hB.sorted, e0]; omega
      have em : fmap (delL fs2 n) = delL (fmap fs2) n := by
        clear h2 h3 h1 hp2
        induction fs2 with
        | nil => rfl
        | cons p l ih =>
          show fmap (delL (p :: l) n) = delL ((p.1, fiV p.2) :: fmap l) n
          unfold delL
          by_cases e : n = p.1
          · rw [if_pos e, if_pos e]
          · rw [if_neg e, if_neg e, ← ih]; rfl
      rw [← eu, em]; exact h3
def renC (F : Fs) (n to : ByteArray) : Int := if namedB to = false then 1 else if lookL F n = none then 8 else 0
def renM (F : Fs) (n to : ByteArray) : Fs := if renC F n to ≠ 0 ∨ n = to then F else insL ltB (delL F n) to (getF F n)
theorem rename_spec {to : ByteArray} (h : Holds (dsk d size F :: cs) H) (k : ∀ H', Holds (dsk d size (renM F n to) :: cs) H' → K (.int .i64 (renC F n to)) H') : FnH Tryd.prog 38 #[.pointer (some ⟨d, 0, none⟩), .string n, .string to] H K := by
  apply disk_Disk_Rename_fn
  unfold disk_Disk_Rename_vc
  obtain ⟨mb, fs, ⟨hB, hp⟩, h'⟩ := dsk_open.1 h
  have hn := hB.sorted.nodup ltB_ok
  refine ⟨some mb, h'.cell 0 rfl rfl, runH_lookup u55 kstr z59 (h'.map 1 rfl) (k := n) ?_⟩
  rw [getV hp hn, hasV hp hn]
  have bad : ∀ c : Int, renC F n to = c → (c ≠ 0 ∨ n = to) → K (.int .i64 c) H := fun c e c0 => by
    have k := k H (by unfold renM; rw [if_pos (by rw [e]; exact c0)]; exact h)
    rw [e] at k; exact k
  refine ⟨_, _, _, rfl, named_spec ⟨_, rfl, br_intro (fun q => ?_) (fun q => br_intro (fun q2 => ?_) (fun q2 => br_intro (fun q3 => ?_) (fun q3 => ?_)))⟩⟩
  · exact bad 1 (by unfold renC; rw [if_pos (by simpa using q)]) (.inl (by decide))
  · have q2 : lookL F n = none := isN_of q2
    exact bad 8 (by unfold renC; rw [if_neg (by simpa using q), if_pos q2]) (.inl (by decide))
  · have q : namedB to = true := by simpa using q
    have q2 : ¬ lookL F n = none := isS_of q2
    rw [str_eq] at q3
    have q3 : ¬ n = to := by simpa using q3
    have e : renC F n to = 0 := by unfold renC; rw [if_neg (by rw [q]; simp), if_neg q2]
    unfold renM at k
    rw [e, if_neg (fun z => z.elim (fun z => z rfl) q3)] at k
    refine remove_spec h fun H1 h1 => ?_
    unfold remM at h1
    rw [if_neg q2] at h1
    rw [if_neg q2]
    have hB1 := hB.del (n := n)
    have := hB.use
    have g := hB.get n
    have e1 := useF_del hB.sorted n
    have e2 := useF_nonneg (delL F n)
    have g2 := hB1.get to
    refine ⟨_, rfl, put_spec (f := getF F n) h1 (hB1.ins q (fun _ => ?_) (by omega) g.2) fun H2 h2 => ⟨rfl, k H2 h2⟩⟩
    obtain ⟨f, hf⟩ := Option.ne_none_iff_exists'.1 q2
    obtain ⟨i, hi⟩ := lookL_idx hf
    rw [delL_erase hi]
    have := (List.getElem?_eq_some_iff.1 (idxL_get hi)).1
    have := hB.few
    rw [List.length_eraseIdx]; split <;> omega
  · rw [str_eq] at q3
    have q3 : n = to := by simpa using q3
    exact bad 0 (by unfold renC; rw [if_neg (by simpa using q), if_neg (isS_of q2)]) (.inr q3)
theorem dclone_spec (h : Holds (dsk d size F :: cs) H) (k : ∀ d' H', Holds (dsk d' size F :: dsk d size F :: cs) H' → HL.Sub H H' → K (.pointer (some ⟨d', 0, none⟩)) H') : FnH Tryd.prog 24 #[.pointer (some ⟨d, 0, none⟩)] H K := by
  apply disk_Disk_Clone_fn
  unfold disk_Disk_Clone_vc
  obtain ⟨mb, fs, ⟨hB, hp⟩, h'⟩ := dsk_open.1 h
  refine ⟨_, h'.cell 0 rfl rfl, _, h'.cell 0 rfl rfl, some mb, h'.cell 0 rfl rfl, mclone_spec (h'.pull 1 rfl) fun mb2 H1 s1 h1 => ⟨some mb2, rfl, s1, h1.newS fun d2 H2 s2 h2 => ⟨s1.trans s2, k d2 H2 ?_ (s1.trans s2)⟩⟩⟩
  have h3 : Holds (dsk d2 size F :: mp mb encS (fmap fs) :: blk d (.cells #[.int .i64 size, .int .i64 (useF F), .map (some mb)] 57 (0, 0)) :: cs) H2 := dsk_open.2 ⟨mb2, fs, ⟨hB, hp⟩, h2⟩
  exact (dsk_open.2 ⟨mb, fs, ⟨hB, hp⟩, (h3.pull 2 rfl).perm ((List.Perm.swap _ _ _).cons _)⟩).swap
end
end Go.Proofs.YtldaflbdldepnaaDoor
