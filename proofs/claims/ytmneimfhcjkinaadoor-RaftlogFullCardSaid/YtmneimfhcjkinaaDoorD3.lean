/- A disk that holds at most three files, all of them safe. -/
import Derived.Test.YtmneimfhcjkinaaDoorDk
namespace Go.Proofs.YtmneimfhcjkinaaDoor
open Go Go.HL
set_option maxRecDepth 10000

abbrev nLog : ByteArray := ⟨#[114, 46, 108, 111, 103]⟩
abbrev nSnap : ByteArray := ⟨#[114, 46, 115, 110, 97, 112]⟩
abbrev nTerm : ByteArray := ⟨#[114, 46, 116, 101, 114, 109]⟩
def optF (n : ByteArray) : Option ByteArray → Fs
  | none => []
  | some b => [(n, (b, (b.size : Int)))]
def mkL (x : Fi) (b c : Option ByteArray) : Fs := (nLog, x) :: (optF nSnap b ++ optF nTerm c)
def mkF (a b c : Option ByteArray) : Fs := optF nLog a ++ (optF nSnap b ++ optF nTerm c)
def sz (o : Option ByteArray) : Int := match o with | none => 0 | some b => (b.size : Int)
theorem sz_nn (o : Option ByteArray) : 0 ≤ sz o := by cases o <;> simp [sz]
theorem mkL_eq (x : ByteArray) (b c : Option ByteArray) : mkL (x, (x.size : Int)) b c = mkF (some x) b c := rfl
theorem nLS : ¬ nLog = nSnap := by decide
theorem nLT : ¬ nLog = nTerm := by decide
theorem nST : ¬ nSnap = nTerm := by decide
theorem lLS : ltB nLog nSnap = true := by decide +kernel
theorem lLT : ltB nLog nTerm = true := by decide +kernel
theorem lST : ltB nSnap nTerm = true := by decide +kernel
theorem lSL : ltB nSnap nLog = false := by decide +kernel
theorem lTL : ltB nTerm nLog = false := by decide +kernel
theorem lTS : ltB nTerm nSnap = false := by decide +kernel
theorem idx_nil3 (n : ByteArray) : idxL ([] : Fs) n = none := rfl
theorem look_nil3 (n : ByteArray) : lookL ([] : Fs) n = none := rfl
theorem look_hit (n : ByteArray) (x : Fi) (F : Fs) : lookL ((n, x) :: F) n = some x := lookL_cons_eq
theorem look_miss {n m : ByteArray} (h : ¬ n = m) (x : Fi) (F : Fs) : lookL ((m, x) :: F) n = lookL F n := lookL_cons_ne h
theorem look_log (a b c : Option ByteArray) : lookL (mkF a b c) nLog = a.map fun x => (x, (x.size : Int)) := by
  cases a <;> cases b <;> cases c <;> simp [mkF, optF, look_hit, look_miss nLS, look_miss nLT, look_nil3]
theorem look_snap (a b c : Option ByteArray) : lookL (mkF a b c) nSnap = b.map fun x => (x, (x.size : Int)) := by
  cases a <;> cases b <;> cases c <;> simp [mkF, optF, look_hit, look_miss (fun z => nLS z.symm), look_miss nST, look_nil3]
theorem look_term (a b c : Option ByteArray) : lookL (mkF a b c) nTerm = c.map fun x => (x, (x.size : Int)) := by
  cases a <;> cases b <;> cases c <;> simp [mkF, optF, look_hit, look_miss (fun z => nLT z.symm), look_miss (fun z => nST z.symm), look_nil3]
theorem useF_nil3 : useF ([] : Fs) = 0 := rfl
theorem use_mk (a b c : Option ByteArray) : useF (mkF a b c) = sz a + sz b + sz c := by
  cases a <;> cases b <;> cases c <;> simp [mkF, optF, useF_cons, useF_nil3, sz] <;> omega
theorem len_mk (a b c : Option ByteArray) : (mkF a b c).length ≤ 3 := by
  cases a <;> cases b <;> cases c <;> simp [mkF, optF]
theorem ins_hit (n : ByteArray) (x y : Fi) (F : Fs) : insL ltB ((n, x) :: F) n y = (n, y) :: F := by rw [insL]; exact if_pos rfl
theorem ins_less {n m : ByteArray} (h : ¬ n = m) (hl : ltB n m = true) (x y : Fi) (F : Fs) : insL ltB ((m, x) :: F) n y = (n, y) :: (m, x) :: F := by rw [insL, if_neg h, if_pos hl]
theorem ins_more {n m : ByteArray} (h : ¬ n = m) (hl : ltB n m = false) (x y : Fi) (F : Fs) : insL ltB ((m, x) :: F) n y = (m, x) :: insL ltB F n y := by rw [insL, if_neg h, if_neg (by rw [hl]; decide)]
theorem ins_nil3 (n : ByteArray) (y : Fi) : insL ltB ([] : Fs) n y = [(n, y)] := rfl
theorem ins_log (a b c : Option ByteArray) (y : Fi) : insL ltB (mkF a b c) nLog y = mkL y b c := by
  cases a <;> cases b <;> cases c <;> simp [mkF, mkL, optF, ins_hit, ins_nil3, ins_less nLS lLS, ins_less nLT lLT]
theorem ins_logL (x y : Fi) (b c : Option ByteArray) : insL ltB (mkL x b c) nLog y = mkL y b c := ins_hit _ _ _ _
theorem ins_snap (a b c : Option ByteArray) (y : ByteArray) : insL ltB (mkF a b c) nSnap (y, (y.size : Int)) = mkF a (some y) c := by
  cases a <;> cases b <;> cases c <;> simp [mkF, optF, ins_hit, ins_nil3, ins_more (fun z => nLS z.symm) lSL, ins_less nST lST]
theorem ins_term (a b c : Option ByteArray) (y : ByteArray) : insL ltB (mkF a b c) nTerm (y, (y.size : Int)) = mkF a b (some y) := by
  cases a <;> cases b <;> cases c <;> simp [mkF, optF, ins_hit, ins_nil3, ins_more (fun z => nLT z.symm) lTL, ins_more (fun z => nST z.symm) lTS]
theorem crash_hit (K : List Int) (n b : ByteArray) (F : Fs) : crashF K ((n, (b, (b.size : Int))) :: F) = (n, (b, (b.size : Int))) :: crashF K F := by
  rw [crashF_cons, if_pos (by simp)]
theorem crash_nil3 (K : List Int) : crashF K ([] : Fs) = [] := by unfold crashF; rfl
theorem crash_mk (K : List Int) (a b c : Option ByteArray) : crashF K (mkF a b c) = mkF a b c := by
  cases a <;> cases b <;> cases c <;> simp [mkF, optF, crash_hit, crash_nil3]
theorem named3 : namedB nLog = true ∧ namedB nSnap = true ∧ namedB nTerm = true := by decide +kernel
theorem room_mk {n : ByteArray} (h : namedB n = true) (a b c : Option ByteArray) : roomC (mkF a b c) n = 0 := by
  have := len_mk a b c
  unfold roomC
  rw [if_neg (by rw [h]; simp), if_neg (by rintro ⟨-, z⟩; omega)]
theorem room_mkL (x : Fi) (b c : Option ByteArray) : roomC (mkL x b c) nLog = 0 := by
  unfold roomC
  rw [if_neg (by rw [named3.1]; simp), if_neg (by rintro ⟨z, -⟩; rw [mkL, look_hit] at z; cases z)]
theorem get_log (a b c : Option ByteArray) : ((getF (mkF a b c) nLog).1.size : Int) = sz a := by
  unfold getF
  rw [look_log]
  cases a <;> rfl
theorem get_snap (a b c : Option ByteArray) : ((getF (mkF a b c) nSnap).1.size : Int) = sz b := by
  unfold getF
  rw [look_snap]
  cases b <;> rfl
theorem get_term (a b c : Option ByteArray) : ((getF (mkF a b c) nTerm).1.size : Int) = sz c := by
  unfold getF
  rw [look_term]
  cases c <;> rfl
theorem rep_log (size : Int) (a b c : Option ByteArray) (x : ByteArray) : repC size (mkF a b c) nLog x = (if (x.size : Int) > size - sz b - sz c then 7 else 0) ∧ repM size (mkF a b c) nLog x = (if (x.size : Int) > size - sz b - sz c then mkF a b c else mkF (some x) b c) := by
  have e : repC size (mkF a b c) nLog x = (if (x.size : Int) > size - sz b - sz c then 7 else 0) := by
    unfold repC
    rw [room_mk named3.1, if_neg (by simp), use_mk, get_log]
    have : size - (sz a + sz b + sz c) + sz a = size - sz b - sz c := by omega
    rw [this]
  refine ⟨e, ?_⟩
  unfold repM
  rw [e, ins_log, mkL_eq]
  split <;> simp_all
theorem rep_snap (size : Int) (a b c : Option ByteArray) (x : ByteArray) : repC size (mkF a b c) nSnap x = (if (x.size : Int) > size - sz a - sz c then 7 else 0) ∧ repM size (mkF a b c) nSnap x = (if (x.size : Int) > size - sz a - sz c then mkF a b c else mkF a (some x) c) := by
  have e : repC size (mkF a b c) nSnap x = (if (x.size : Int) > size - sz a - sz c then 7 else 0) := by
    unfold repC
    rw [room_mk named3.2.1, if_neg (by simp), use_mk, get_snap]
    have : size - (sz a + sz b + sz c) + sz b = size - sz a - sz c := by omega
    rw [this]
  refine ⟨e, ?_⟩
  unfold repM
  rw [e, ins_snap]
  split <;> simp_all
theorem rep_term (size : Int) (a b c : Option ByteArray) (x : ByteArray) : repC size (mkF a b c) nTerm x = (if (x.size : Int) > size - sz a - sz b then 7 else 0) ∧ repM size (mkF a b c) nTerm x = (if (x.size : Int) > size - sz a - sz b then mkF a b c else mkF a b (some x)) := by
  have e : repC size (mkF a b c) nTerm x = (if (x.size : Int) > size - sz a - sz b then 7 else 0) := by
    unfold repC
    rw [room_mk named3.2.2, if_neg (by simp), use_mk, get_term]
    have : size - (sz a + sz b + sz c) + sz c = size - sz a - sz b := by omega
    rw [this]
  refine ⟨e, ?_⟩
  unfold repM
  rw [e, ins_term]
  split <;> simp_all
theorem cut_log {a b c : Option ByteArray} {x : ByteArray} {m : Int} (ha : a = some x) (h0 : 0 ≤ m) (h1 : m ≤ x.size) : cutC (mkF a b c) nLog m = 0 ∧ cutM (mkF a b c) nLog m = mkF (some (x.extract 0 m.toNat)) b c := by
  subst ha
  have hl := look_log (some x) b c
  have hg : getF (mkF (some x) b c) nLog = (x, (x.size : Int)) := by unfold getF; rw [hl]; rfl
  have e : cutC (mkF (some x) b c) nLog m = 0 := by
    unfold cutC
    rw [hl, hg, if_neg (by simp), if_neg (by dsimp only; omega)]
  refine ⟨e, ?_⟩
  unfold cutM
  rw [e, if_neg (by simp), hg, ins_log, ← mkL_eq]
  have es : ((x.extract 0 m.toNat).size : Int) = m := by rw [ByteArray.size_extract]; omega
  rw [es]
  dsimp only
  congr 2
  split <;> omega
theorem app_log {size : Int} {a b c : Option ByteArray} {s : ByteArray} (h : (s.size : Int) ≤ size - (sz a + sz b + sz c)) : appC size (mkF a b c) nLog s = 0 ∧ synM (appM size (mkF a b c) nLog s) nLog = mkF (some (a.getD ⟨#[]⟩ ++ s)) b c := by
  have hf : fitN size (mkF a b c) s = s.size := by
    unfold fitN
    rw [use_mk]
    split <;> omega
  have hs : s.extract 0 ((s.size : Int)).toNat = s := by rw [Int.toNat_natCast]; exact ByteArray.extract_zero_size
  refine ⟨?_, ?_⟩
  · unfold appC
    rw [room_mk named3.1, if_neg (by simp), hf, if_neg (by omega)]
  · have ea : appM size (mkF a b c) nLog s = mkL (appF size (mkF a b c) nLog s) b c := by
      unfold appM
      rw [room_mk named3.1, if_neg (by simp), ins_log]
    have hl : lookL (mkL (appF size (mkF a b c) nLog s) b c) nLog = some (appF size (mkF a b c) nLog s) := look_hit _ _ _
    have hg : getF (mkL (appF size (mkF a b c) nLog s) b c) nLog = appF size (mkF a b c) nLog s := by unfold getF; rw [hl]; rfl
    rw [ea]
    unfold synM
    rw [hl, hg, if_neg (by simp), ins_logL]
    have e : (appF size (mkF a b c) nLog s).1 = a.getD ⟨#[]⟩ ++ s := by
      unfold appF getF
      rw [hf, hs, look_log]
      cases a <;> rfl
    rw [e]; rfl
end Go.Proofs.YtmneimfhcjkinaaDoor
