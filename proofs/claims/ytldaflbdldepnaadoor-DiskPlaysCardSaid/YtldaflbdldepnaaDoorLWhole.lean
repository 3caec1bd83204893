/- Chapter 1: the laws DiskWhole and DiskSafe, walked. -/
import Derived.Test.YtldaflbdldepnaaDoorLTwice
namespace Go.Proofs.YtldaflbdldepnaaDoor
open Go Go.HL
set_option maxRecDepth 10000
set_option maxHeartbeats 1600000

theorem named_a : namedB tA = true := by kernel_rfl
/-- One file, that is safe. -/
def oneF (b : ByteArray) : Fs := [(tA, b, (b.size : Int))]
theorem rep_none {size : Int} {b : ByteArray} : repC size [] tA b = (if (b.size : Int) > size then 7 else 0) ∧ repM size [] tA b = (if (b.size : Int) > size then [] else oneF b) := by
  have er : roomC [] tA = 0 := by kernel_rfl
  have eu : useF [] = 0 := rfl
  have eg : (getF [] tA).1.size = 0 := rfl
  have e : repC size [] tA b = (if (b.size : Int) > size then 7 else 0) := by
    unfold repC
    rw [if_neg (fun z => z er), eu, eg]
    have : size - 0 + ((0 : Nat) : Int) = size := by omega
    rw [this]
  refine ⟨e, ?_⟩
  unfold repM
  rw [e]
  split
  · rw [if_pos (by decide)]
  · rw [if_neg (by decide)]; rfl
theorem rep_one {size : Int} {a b : ByteArray} : repC size (oneF a) tA b = (if (b.size : Int) > size then 7 else 0) ∧ repM size (oneF a) tA b = (if (b.size : Int) > size then oneF a else oneF b) := by
  have el : lookL (oneF a) tA = some (a, (a.size : Int)) := rfl
  have er : roomC (oneF a) tA = 0 := by
    unfold roomC
    rw [if_neg (by rw [named_a]; simp), if_neg (fun z => by rw [el] at z; cases z.1)]
  have eu : useF (oneF a) = a.size := by simp [useF, sumL, oneF]
  have eg : (getF (oneF a) tA).1.size = a.size := rfl
  have e : repC size (oneF a) tA b = (if (b.size : Int) > size then 7 else 0) := by
    unfold repC
    rw [if_neg (fun z => z er), eu, eg]
    have : size - (a.size : Int) + (a.size : Int) = size := by omega
    rw [this]
  refine ⟨e, ?_⟩
  unfold repM
  rw [e]
  split
  · rw [if_pos (by decide)]
  · rw [if_neg (by decide)]
    show insL ltB [(tA, a, (a.size : Int))] tA (b, (b.size : Int)) = oneF b
    unfold insL
    rw [if_pos rfl]; rfl
theorem crash_one {b : ByteArray} {L : List Int} : crashF L (oneF b) = oneF b := crash_id fun p hp => by
  simp only [oneF, List.mem_singleton] at hp
  subst hp; dsimp only; omega
theorem get_one {b : ByteArray} : getF (oneF b) tA = (b, (b.size : Int)) ∧ (if lookL (oneF b) tA = none then (8 : Int) else 0) = 0 := ⟨rfl, rfl⟩
theorem whole_law {H0 : Heap} {size : Int} {a b : ByteArray} {f : Sl} {L : List Int} {K : Value → Heap → Prop} (hb : i64B size) (hf : Ints H0 f L) (wf : ∀ n ∈ L, i64B n)
    (k : ∀ H', HL.Sub H0 H' → K (.bool true) H') : FnH Tryd.prog 4 #[.int .i64 size, .string a, .string b, .slice f.p f.n f.c] H0 K := by
  apply logboomlaw1_DiskWhole_fn
  unfold logboomlaw1_DiskWhole_vc
  obtain ⟨w0, w1, w2⟩ := size_in (m := 3000) hb (by decide) (by decide)
  refine shown_spec (Holds.whole H0) fun H1 h1 => ⟨true, rfl, pick_spec (by decide) ⟨_, rfl, ?_⟩⟩
  rw [w0]
  refine dnew_spec h1 (fun q => by omega) fun _ _ d H2 h2 => ⟨_, _, rfl, br_f rfl (br_f rfl (br_f rfl ?_))⟩
  generalize hsz : 1 + pickI size 3000 = sz at *
  have g : Gives (ro H0) fun A => Ints A f L := ⟨ro_mono H0, fun A hA => hf.sub hA⟩
  refine replace_spec (n := tA) (b := a) h2 fun H3 h3 => ⟨_, rfl, crash_spec (i := 0) h3 g rfl wf fun H4 h4 => ⟨rfl, ?_⟩⟩
  rw [rep_none.1]
  rw [rep_none.2] at h4
  by_cases c : (a.size : Int) > sz
  · rw [if_pos c] at h4 ⊢
    have e0 : crashF L [] = [] := by cases L <;> rfl
    rw [e0] at h4
    refine read_spec (n := tA) (i := 0) h4 rfl ⟨_, _, rfl, br_f (by rw [decide_eq_false (by omega)]; rfl) (br_f rfl (br_t rfl (br_f rfl (br_f (by rw [str_eq]; rfl) ?_))))⟩
    refine names_spec h4 fun s H5 h5 => ⟨s, rfl, ?_⟩
    have hn : s.n = 0 := by
      have := (h5.own 0 rfl).1
      simp at this
      omega
    refine br_f (by rw [hn]; rfl) ?_
    refine replace_spec (n := tA) (b := b) h5.tail fun H6 h6 => ⟨_, rfl, crash_spec (i := 0) h6 g rfl wf fun H7 h7 => ⟨rfl, ?_⟩⟩
    rw [rep_none.1]
    rw [rep_none.2] at h7
    by_cases c2 : (b.size : Int) > sz
    · rw [if_pos c2] at h7 ⊢
      rw [e0] at h7
      refine read_spec (n := tA) (i := 0) h7 rfl ⟨_, _, rfl, br_f (by rw [decide_eq_false (by omega)]; rfl) (br_f rfl (br_t rfl ?_))⟩
      rw [str_eq]
      exact k H7 (h7.sub 1 rfl)
    · rw [if_neg c2] at h7 ⊢
      rw [crash_one] at h7
      refine read_spec (n := tA) (i := 0) h7 rfl ⟨_, _, rfl, br_f (by rw [decide_eq_true (by omega)]; rfl) (br_t rfl ?_)⟩
      have : K (.bool true) H7 := k H7 (h7.sub 1 rfl)
      rw [get_one.1, str_eq]
      simpa using this
  · rw [if_neg c] at h4 ⊢
    rw [crash_one] at h4
    refine read_spec (n := tA) (i := 0) h4 rfl ⟨_, _, rfl, br_f (by rw [decide_eq_true (by omega)]; rfl) (br_t rfl (br_f (by rw [get_one.1, str_eq]; simp) (br_f rfl ?_)))⟩
    refine replace_spec (n := tA) (b := b) h4 fun H6 h6 => ⟨_, rfl, crash_spec (i := 0) h6 g rfl wf fun H7 h7 => ⟨rfl, ?_⟩⟩
    rw [rep_one.1]
    rw [rep_one.2] at h7
    by_cases c2 : (b.size : Int) > sz
    · rw [if_pos c2] at h7 ⊢
      rw [crash_one] at h7
      refine read_spec (n := tA) (i := 0) h7 rfl ⟨_, _, rfl, br_f (by rw [decide_eq_false (by omega)]; rfl) (br_f rfl (br_t rfl ?_))⟩
      have : K (.bool true) H7 := k H7 (h7.sub 1 rfl)
      rw [get_one.1, str_eq]
      simpa using this
    · rw [if_neg c2] at h7 ⊢
      rw [crash_one] at h7
      refine read_spec (n := tA) (i := 0) h7 rfl ⟨_, _, rfl, br_f (by rw [decide_eq_true (by omega)]; rfl) (br_t rfl ?_)⟩
      have : K (.bool true) H7 := k H7 (h7.sub 1 rfl)
      rw [get_one.1, str_eq]
      simpa using this
end Go.Proofs.YtldaflbdldepnaaDoor
