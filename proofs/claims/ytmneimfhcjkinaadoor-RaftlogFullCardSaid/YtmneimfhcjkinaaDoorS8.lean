/- Chapter 9: readTerm, readSnap: of what the log wrote. -/
import Derived.Test.YtmneimfhcjkinaaDoorS6
namespace Go.Proofs.YtmneimfhcjkinaaDoor
open Go Go.HL
set_option maxHeartbeats 1600000
set_option maxRecDepth 10000

section
variable {cs : List Chunk} {H : Heap} {K : Value → Heap → Prop}
theorem readTerm9_spec {c d : Nat} {st : RS} {t v : Int} (h : HL.Holds (lgc c d st :: cs) H) (ht : inX t 0) (hv : inX v 0) (k : ∀ H', HL.Holds (lgc c d { st with term := t, vote := v } :: cs) H' → K (.bool true) H') :
    FnH Tryd.prog 23 #[.pointer (some ⟨c, 0, none⟩), .string (strN (encN t ++ encN v))] H K := by
  apply raftlog_Log_readTerm_fn
  unfold raftlog_Log_readTerm_vc
  obtain ⟨s, h1⟩ := lgc_open.1 h
  have e : encN t ++ encN v = encN t ++ (encN v ++ []) := by simp
  rw [e]
  refine numbers9_spec (a := t) (b := v) (r := []) (by simp) (by decide) ht.1 ht.2 hv.1 hv.2 (by simp) ⟨_, _, _, _, rfl, ?_⟩
  refine h1.store 0 rfl (by simp) fun H2 h2 => h2.store 0 rfl (by simp) fun H3 h3 => br_t rfl ?_
  have e1 : strN [] = (⟨#[]⟩ : ByteArray) := rfl
  rw [str_eq, decide_eq_true e1]
  exact k H3 (lgc_open.2 ⟨s, h3⟩)
theorem readSnap9_spec {c d : Nat} {st : RS} {i t : Int} {data : ByteArray} (h : HL.Holds (lgc c d st :: cs) H) (hi : inX i 1) (ht : inX t 1) (hd : data.size ≤ 60000) (k : ∀ H', HL.Holds (lgc c d { st with index := i, snapped := t, data := data } :: cs) H' → K (.bool true) H') :
    FnH Tryd.prog 24 #[.pointer (some ⟨c, 0, none⟩), .string (strN (snapN i t data))] H K := by
  apply raftlog_Log_readSnap_fn
  unfold raftlog_Log_readSnap_vc
  obtain ⟨s, h1⟩ := lgc_open.1 h
  have lc := encN_len (data.size : Nat)
  refine numbers9_spec (a := i) (b := t) (r := encN (data.size : Nat) ++ nb data) (app_bytes (encN_bytes _) (nb_byte _)) (by decide) hi.1 hi.2 ht.1 ht.2 (by rw [List.length_append, nb_len]; omega) ⟨_, _, _, _, rfl, ?_⟩
  refine h1.store 0 rfl (by simp) fun H2 h2 => h2.store 0 rfl (by simp) fun H3 h3 => text9_spec (t := data) (by omega) (by decide) ⟨_, _, rfl, h3.store 0 rfl (by simp) fun H4 h4 => br_t rfl (k H4 (lgc_open.2 ⟨s, h4⟩))⟩
end
end Go.Proofs.YtmneimfhcjkinaaDoor
