/- Chapter 1: the law DiskSafe, walked. -/
import Derived.Test.YtldaflbdldepnaaDoorLTwice
namespace Go.Proofs.YtldaflbdldepnaaDoor
open Go Go.HL
set_option maxRecDepth 10000
set_option maxHeartbeats 1600000

abbrev tLog : ByteArray := ⟨#[108, 111, 103]⟩
theorem named_log : namedB tLog = true := by kernel_rfl
/-- The log, where something was written. -/
def logF (i : Int) (all : ByteArray) (safe : Int) : Fs := if i = 0 then [] else [(tLog, all, safe)]
theorem logF_facts {i : Int} {all : ByteArray} {safe : Int} (h : i = 0 → all = ⟨#[]⟩ ∧ safe = 0) : getF (logF i all safe) tLog = (all, safe) ∧ useF (logF i all safe) = all.size ∧ roomC (logF i all safe) tLog = 0 ∧ ∀ v, insL ltB (logF i all safe) tLog v = [(tLog, v)] := by
  unfold logF
  split
  · rename_i c
    obtain ⟨rfl, rfl⟩ := h c
    exact ⟨rfl, rfl, by kernel_rfl, fun v => rfl⟩
  · refine ⟨rfl, by simp [useF, sumL], ?_, fun v => ?_⟩
    · unfold roomC
      have el : lookL [(tLog, ((all, safe) : Fi))] tLog = some (all, safe) := rfl
      rw [if_neg (by rw [named_log]; simp), if_neg (fun z => by rw [el] at z; cases z.1)]
    · unfold insL
      rw [if_pos rfl]
theorem extract_all (b : ByteArray) : b.extract 0 b.size = b := by simp
theorem crash_log {all : ByteArray} {safe : Int} {L : List Int} (h0 : 0 ≤ safe) (h1 : safe ≤ all.size) (hL : ∀ n ∈ L, i64B n) : ∃ m : Int, safe ≤ m ∧ m ≤ all.size ∧ crashF L [(tLog, all, safe)] = [(tLog, all.extract 0 m.toNat, m)] := by
  have en : ∀ M : List Int, crashF M [] = [] := fun M => by cases M <;> rfl
  rw [crashF_cons]
  split
  · rename_i c
    dsimp only at c
    refine ⟨all.size, h1, Int.le_refl _, ?_⟩
    have : safe = all.size := by omega
    rw [en, Int.toNat_natCast, extract_all, this]
  · rename_i c
    dsimp only at c ⊢
    obtain ⟨y0, y1⟩ := pickI_in (c := L.headD 0) (n := (all.size : Int) - safe + 1) (by omega) (headD_in hL).1 (headD_in hL).2
    exact ⟨safe + pickI (L.headD 0) ((all.size : Int) - safe + 1), by omega, by omega, by rw [en]⟩
theorem safe_law {H0 : Heap} {size : Int} {ps ss f : Sl} {parts : List ByteArray} {syncs L : List Int} {K : Value → Heap → Prop} (hb : i64B size) (hp : Recs eS H0 ps parts) (wp : ∀ x ∈ parts, x.size ≤ 9223372036854775807) (hs : Ints H0 ss syncs) (hf : Ints H0 f L) (wf : ∀ n ∈ L, i64B n)
    (k : ∀ H', HL.Sub H0 H' → K (.bool true) H') : FnH Tryd.prog 3 #[.int .i64 size, .slice ps.p ps.n ps.c, .slice ss.p ss.n ss.c, .slice f.p f.n f.c] H0 K := by
  apply logboomlaw1_DiskSafe_fn
  unfold logboomlaw1_DiskSafe_vc
  obtain ⟨w0, w1, w2⟩ := size_in (m := 5000) hb (by decide) (by decide)
  refine shown_spec (Holds.whole H0) fun H1 h1 => ⟨true, rfl, pick_spec (by decide) ⟨_, rfl, ?_⟩⟩
  rw [w0]
  refine dnew_spec h1 (fun q => by omega) fun _ _ d H2 h2 => ⟨_, _, rfl, br_f rfl (br_f rfl (br_f rfl ?_))⟩
  generalize hsz : 1 + pickI size 5000 = sz at *
  have g : Gives (ro H0) fun A => Ints A f L := ⟨ro_mono H0, fun A hA => hf.sub hA⟩
  have hbig := hp.big
  refine ⟨fun all safe i H => 0 ≤ i ∧ i ≤ ps.n ∧ i ≤ 50 ∧ 0 ≤ safe ∧ safe ≤ all.size ∧ (all.size : Int) ≤ sz ∧ (i = 0 → all = ⟨#[]⟩ ∧ safe = 0) ∧ Holds [dsk d sz (logF i all safe), ro H0] H, fun _ _ i _ => (50 - i).toNat, ⟨Int.le_refl _, by omega, by decide, Int.le_refl _, Int.le_refl _, by show ((0 : Nat) : Int) ≤ sz; omega, fun _ => ⟨rfl, rfl⟩, h2⟩, ?_⟩
  rintro all safe i H3 ⟨i0, i1, i2, s0, s1, s2, hz, h3⟩
  obtain ⟨g1, g2, g3, g4⟩ := logF_facts hz
  refine br_intro (fun q => br_intro (fun q2 => ?step) (fun q2 => ?exit1)) (fun q => ?exit2)
  case step =>
    have q := of_decide_eq_true q
    have q2 := of_decide_eq_true q2
    have hR := fun {H} (h : Holds [dsk d sz (logF i all safe), ro H0] H) => Recs.mono _ _ (h.sub 1 rfl) hp
    obtain ⟨q1, o1, x, e1, e2, e3⟩ := Recs.getS (hR h3) i0 q
    have hx := wp x (List.mem_of_getElem? e2)
    refine ⟨q1, o1, e1, i0, q, x, e3, q1, o1, e1, i0, q, x, e3, append_spec (n := tLog) h3 hx fun H4 h4 => ⟨_, rfl, ?_⟩⟩
    obtain ⟨q5, o5, x', f1, f2, f3⟩ := Recs.getS (Recs.mono _ _ (h4.sub 1 rfl) hp) i0 q
    obtain rfl : x' = x := by rw [e2] at f2; exact (Option.some.inj f2).symm
    rw [wrap64_id (n := sz - (all.size : Int)) (by omega) (by omega), wrap64_id (n := i + 1) (by omega) (by omega)]
    have hfit : fitN sz (logF i all safe) x' = if sz - (all.size : Int) < (x'.size : Int) then sz - (all.size : Int) else (x'.size : Int) := by unfold fitN; rw [g2]
    rw [← hfit]
    have hfi : 0 ≤ fitN sz (logF i all safe) x' ∧ fitN sz (logF i all safe) x' ≤ x'.size ∧ fitN sz (logF i all safe) x' ≤ sz - all.size := by
      rw [hfit]; split <;> omega
    have eM : appM sz (logF i all safe) tLog x' = [(tLog, all ++ x'.extract 0 (fitN sz (logF i all safe) x').toNat, safe)] := by
      unfold appM appF
      rw [if_neg (fun z => z g3), g4, g1]
    have eC : appC sz (logF i all safe) tLog x' = if fitN sz (logF i all safe) x' < x'.size then 7 else 0 := by
      unfold appC; rw [if_neg (fun z => z g3)]
    rw [eM] at h4
    rw [eC]
    generalize fitN sz (logF i all safe) x' = n at *
    have esz : (all ++ x'.extract 0 n.toNat).size = all.size + n.toNat := by rw [ByteArray.size_append, ext_size (by omega)]
    have esx : (x'.extract (Int.toNat 0) n.toNat).size = n.toNat := ext_size (by omega)
    have hcode : ((if n < (x'.size : Int) then (7 : Int) else 0) == 0) = (n == (x'.size : Int)) := by
      split
      · rename_i c
        rw [show (n == (x'.size : Int)) = false by simpa using (show ¬ n = x'.size by omega)]; rfl
      · rename_i c
        rw [show (n == (x'.size : Int)) = true by simpa using (show n = x'.size by omega)]; rfl
    have hne : i + 1 ≠ 0 := by omega
    have eL : ∀ (a : ByteArray) (s : Int), logF (i + 1) a s = [(tLog, a, s)] := fun a s => by unfold logF; rw [if_neg hne]
    refine ⟨q5, o5, f1, i0, q, x', f3, hfi.1, hfi.2.1, by rw [esx]; omega, q5, o5, f1, i0, q, x', f3, br_f (by rw [hcode]; simp) ?_⟩
    refine br_intro (fun c => br_f ?_ ?e1) (fun c => ?e2)
    · split
      · rfl
      · rename_i c2; rw [if_neg c2] at c; cases c
    all_goals
      refine ⟨fun b H => H = H4, br_intro (fun c2 => ?_) (fun c2 => ⟨rfl, rfl⟩), ?_⟩
      · have c2 := of_decide_eq_true c2
        obtain ⟨q6, o6, m1, m2, m3, m4⟩ := (hs.sub (h4.sub 1 rfl)).at_ i0 c2
        exact ⟨q6, o6, m1, m2, m3, _, m4, by decide, rfl, rfl⟩
      rintro b H5 rfl
      refine br_intro (fun c3 => ?_) (fun c3 => ?_)
      · refine sync_spec (n := tLog) h4 fun H6 h6 => ⟨_, rfl, br_f rfl ⟨rfl, ⟨by omega, by omega, by omega, by omega, Int.le_refl _, ?_, fun z => absurd z hne, ?_⟩, by dsimp only; omega⟩⟩
        · show (((all ++ x'.extract 0 n.toNat).size : Nat) : Int) ≤ sz
          rw [esz]; omega
        · rw [eL]; exact h6
      · refine ⟨rfl, ⟨by omega, by omega, by omega, s0, ?_, ?_, fun z => absurd z hne, ?_⟩, by dsimp only; omega⟩
        · show safe ≤ (((all ++ x'.extract 0 n.toNat).size : Nat) : Int)
          rw [esz]; omega
        · show (((all ++ x'.extract 0 n.toNat).size : Nat) : Int) ≤ sz
          rw [esz]; omega
        · rw [eL]; exact h4
  all_goals
    have q := of_decide_eq_false (by assumption : decide _ = false)
    refine crash_spec (i := 0) h3 g rfl wf fun H4 h4 => ⟨rfl, ?_⟩
    by_cases c : i = 0
    · have ec : crashF L (logF i all safe) = [] := by unfold logF; rw [if_pos c]; cases L <;> rfl
      rw [ec] at h4
      refine read_spec (n := tLog) (i := 0) h4 rfl ⟨_, _, rfl, br_t ?_ (k H4 (h4.sub 1 rfl))⟩
      have : ps.n = 0 := by omega
      rw [this]; rfl
    · have ef : logF i all safe = [(tLog, all, safe)] := by unfold logF; rw [if_neg c]
      obtain ⟨m, m0, m1, ec⟩ := crash_log (all := all) (L := L) s0 s1 wf
      rw [ef, ec] at h4
      have esz : (all.extract 0 m.toNat).size = m.toNat := ext_size (by omega)
      have eg : getF [(tLog, ((all.extract 0 m.toNat, m) : Fi))] tLog = (all.extract 0 m.toNat, m) := rfl
      have eu : useF [(tLog, all.extract 0 m.toNat, m)] = m := by simp only [useF, sumL, List.map_cons, List.map_nil, List.sum_cons, List.sum_nil, esz]; omega
      refine read_spec (n := tLog) (i := 0) h4 rfl ?_
      rw [eg]
      refine ⟨_, _, rfl, br_f (by have : ¬ (ps.n : Int) = 0 := (by omega); simpa using this) (br_t rfl ?_)⟩
      rw [esz]
      refine br_t (decide_eq_true (by omega)) (br_t (decide_eq_true (by omega)) ⟨by omega, by omega, br_t ?_ (synced_spec (n := tLog) (i := 0) h4 rfl ?_)⟩)
      · rw [str_eq]; exact decide_eq_true (by congr 1)
      rw [eg]
      refine ⟨_, rfl, br_t (by simp; omega) (free_spec (i := 0) h4 rfl ⟨_, rfl, ?_⟩)⟩
      have : K (.bool true) H4 := k H4 (h4.sub 1 rfl)
      rw [eu, wrap64_id (by omega) (by omega)]
      have e5 : (sz - m == sz - ((m.toNat : Nat) : Int)) = true := by simp; omega
      rw [e5]; exact this
end Go.Proofs.YtldaflbdldepnaaDoor
