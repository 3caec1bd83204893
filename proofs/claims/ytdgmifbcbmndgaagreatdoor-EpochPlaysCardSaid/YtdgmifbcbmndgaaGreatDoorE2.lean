/- Chapter 7: epochs: the program's functions: write, read, Open. -/
import Derived.Test.YtdgmifbcbmndgaaGreatDoorE1
namespace Go.Proofs.YtdgmifbcbmndgaaGreatDoor
open Go Go.HL
set_option maxHeartbeats 1600000
set_option maxRecDepth 10000

abbrev eN (e : En) : List Nat := encN e.1 ++ encN e.2.1
def bodyE (L : List En) : List Nat := encN L.length ++ L.flatMap eN
abbrev sumd (l : List Nat) : List Nat := fourN (crcN l) ++ l
def fileE (L : List En) : ByteArray := strN (sumd (bodyE L))
theorem eN_bytes (e : En) : ∀ b ∈ eN e, b < 256 := fun b hb => by
  rcases List.mem_append.1 hb with h | h
  · exact encN_bytes _ b h
  · exact encN_bytes _ b h
theorem flatN_bytes (L : List En) : ∀ b ∈ L.flatMap eN, b < 256 := fun b hb => by
  obtain ⟨e, -, h⟩ := List.mem_flatMap.1 hb
  exact eN_bytes e b h
theorem bodyE_bytes (L : List En) : ∀ b ∈ bodyE L, b < 256 := fun b hb => by
  rcases List.mem_append.1 hb with h | h
  · exact encN_bytes _ b h
  · exact flatN_bytes L b h
theorem flatN_len (L : List En) : (L.flatMap eN).length ≤ L.length * 20 := by
  induction L with
  | nil => simp
  | cons a l ih =>
    have h1 := encN_len a.1
    have h2 := encN_len a.2.1
    rw [List.flatMap_cons, List.length_append, List.length_append, List.length_cons]; omega
theorem bodyE_len (L : List En) : (bodyE L).length ≤ 10 + L.length * 20 := by
  have := flatN_len L
  have := encN_len L.length
  unfold bodyE
  rw [List.length_append]; omega
theorem encN_ne (n : Int) : encN n ≠ [] := fun e => by
  unfold encN encD at e
  split at e <;> cases e
theorem bodyE_ne (L : List En) : bodyE L ≠ [] := fun e => encN_ne L.length (List.append_eq_nil_iff.1 e).1
def wrC (size : Int) (F : Fs) (n : ByteArray) (L l : List En) : Int := if l = L then 0 else repC size F n (fileE l)
def wrF (size : Int) (F : Fs) (n : ByteArray) (L l : List En) : Fs := if l = L then F else repM size F n (fileE l)
def wrL (size : Int) (F : Fs) (n : ByteArray) (L l : List En) : List En := if l = L then L else if repC size F n (fileE l) = 0 then l else L
section
variable {cs : List Chunk} {H : Heap} {K : Value → Heap → Prop}
theorem write_spec {c d : Nat} {size : Int} {F : Fs} {n : ByteArray} {L l : List En} {s : Sl} (h : HL.Holds (ownE s l :: cch c d n L :: dsk d size F :: cs) H) (hl : l.length ≤ 1000) (hL : L.length ≤ 1000) (hi : ∀ e ∈ l, i64B e.1 ∧ i64B e.2.1)
    (k : ∀ H', HL.Holds (cch c d n (wrL size F n L l) :: dsk d size (wrF size F n L l) :: cs) H' → K (.int .i64 (wrC size F n L l)) H') : FnH Tryz.prog 32 #[.pointer (some ⟨c, 0, none⟩), .slice s.p s.n s.c] H K := by
  apply epochs_Cache_write_fn
  unfold epochs_Cache_write_vc
  obtain ⟨sL, h1⟩ := cch_open.1 h.swap
  have hRL : Recs eE H sL L := Own.recs eElen (by decide) (h1.own 1 rfl) (by omega)
  have hRl : Recs eE H s l := Own.recs eElen (by decide) (h1.own 2 rfl) (by omega)
  have hsn := hRl.len
  refine ⟨sL, h1.cell 0 rfl rfl, eequal_spec hRl hRL ⟨_, rfl, br_intro (fun q => ?_) (fun q => ?_)⟩⟩
  · have q := of_decide_eq_true q
    unfold wrC wrF wrL at k
    rw [if_pos q, if_pos q, if_pos q] at k
    exact k H h.tail
  have q := of_decide_eq_false q
  unfold wrC wrF wrL at k
  rw [if_neg q, if_neg q, if_neg q] at k
  refine h1.new fun b H2 h2 => int_spec (n := (s.n : Nat)) ⟨by omega, by omega⟩ fun H3 s3 => ⟨_, rfl, ?_⟩
  have h3 := bldW_new (h2.up s3)
  refine bwrite_spec h3 (encN_bytes _) (by have := encN_len ((s.n : Nat) : Int); simp; omega) fun n1 H4 h4 => ⟨_, _, rfl, ?_⟩
  refine ⟨fun i H => 0 ≤ i ∧ i ≤ s.n ∧ HL.Holds (bldW b (encN l.length ++ (l.take i.toNat).flatMap eN) :: blk c (.cells #[.pointer (some ⟨d, 0, none⟩), .string n, .slice sL.p sL.n sL.c] 65 (0, 0)) :: ownE sL L :: ownE s l :: dsk d size F :: cs) H, fun i _ => (s.n - i).toNat, ⟨Int.le_refl _, by omega, by rw [← hsn]; simpa using h4⟩, ?_⟩
  rintro i H5 ⟨i0, i1, h5⟩
  have hR5 : Recs eE H5 s l := Own.recs eElen (by decide) (h5.own 3 rfl) (by omega)
  refine br_intro (fun w => ?_) (fun w => ?_)
  · have w := of_decide_eq_true w
    obtain ⟨q1, o1, x, x1, x2, x3⟩ := hR5.at_ eElen (by decide) i0 w
    obtain ⟨b1, b2⟩ := hi x (List.mem_of_getElem? x2)
    refine ⟨q1, o1, x1, i0, w, _, x3 0 _ rfl, _, x3 1 _ rfl, _, x3 2 _ rfl, int_spec b1 fun H6 s6 => ⟨_, rfl, s6, int_spec b2 fun H7 s7 => ⟨_, rfl, s6.trans s7, ?_, ?_⟩⟩⟩
    · have e1 : (strN (encN x.1)).size = (encN x.1).length := by rw [← nb_len, nb_str (encN_bytes _)]
      have e2 : (strN (encN x.2.1)).size = (encN x.2.1).length := by rw [← nb_len, nb_str (encN_bytes _)]
      have := encN_len x.1
      have := encN_len x.2.1
      omega
    · rw [strN_app]
      have hlen := flatN_len (l.take i.toNat)
      rw [List.length_take] at hlen
      have h10 := encN_len ((l.length : Nat) : Int)
      refine bwrite_spec (h5.up (s6.trans s7)) (eN_bytes x) (by
        have := encN_len x.1
        have := encN_len x.2.1
        rw [List.length_append, List.length_append]; omega) fun n4 H8 h8 => ⟨_, _, rfl, rfl, ?_⟩
      rw [wrap64_id (n := i + 1) (by omega) (by omega)]
      refine ⟨⟨by omega, by omega, ?_⟩, by dsimp only; omega⟩
      rw [take_step i0 x2, List.flatMap_append]
      simpa using h8
  · have w := of_decide_eq_false w
    rw [List.take_of_length_le (by omega)] at h5
    have h6 : HL.Holds (bldW b (bodyE l) :: blk c (.cells #[.pointer (some ⟨d, 0, none⟩), .string n, .slice sL.p sL.n sL.c] 65 (0, 0)) :: ownE sL L :: ownE s l :: dsk d size F :: cs) H5 := h5
    have h := bldW_read (bodyE_ne l) h6
    clear h5 h6 h1 h2 h3 h4
    have hbl := bodyE_len l
    have hs1 : (strN (bodyE l)).size = (bodyE l).length := by rw [← nb_len, nb_str (bodyE_bytes l)]
    have hs2 : (strN (fourN (crcN (bodyE l)))).size = 4 := by rw [← nb_len, nb_str (fourN_bytes _)]; rfl
    have B := fun {H : Heap} {K : Value → Heap → Prop} (h : HL.Holds (bldR b (bodyE l) :: blk c (.cells #[.pointer (some ⟨d, 0, none⟩), .string n, .slice sL.p sL.n sL.c] 65 (0, 0)) :: ownE sL L :: ownE s l :: dsk d size F :: cs) H) (k : ∀ H', HL.Holds (bldR b (bodyE l) :: blk c (.cells #[.pointer (some ⟨d, 0, none⟩), .string n, .slice sL.p sL.n sL.c] 65 (0, 0)) :: ownE sL L :: ownE s l :: dsk d size F :: cs) H' → K (.string (strN (bodyE l))) H') =>
      bstr_spec (q := b) h (bodyE_bytes l) (bodyE_ne l) (by omega) k
    have S := fun {H : Heap} {K : Value → Heap → Prop} (h : HL.Holds (bldR b (bodyE l) :: blk c (.cells #[.pointer (some ⟨d, 0, none⟩), .string n, .slice sL.p sL.n sL.c] 65 (0, 0)) :: ownE sL L :: ownE s l :: dsk d size F :: cs) H) (k : ∀ H', HL.Holds (bldR b (bodyE l) :: blk c (.cells #[.pointer (some ⟨d, 0, none⟩), .string n, .slice sL.p sL.n sL.c] 65 (0, 0)) :: ownE sL L :: ownE s l :: dsk d size F :: cs) H' → K (.string (strN (fourN (crcN (bodyE l))))) H') =>
      esum_spec (s := strN (bodyE l)) (H := H) (K := K) (by omega) fun H' s' => by rw [nb_str (bodyE_bytes l)]; exact k H' (h.up s')
    have R := fun {H : Heap} {K : Value → Heap → Prop} (h : HL.Holds (bldR b (bodyE l) :: blk c (.cells #[.pointer (some ⟨d, 0, none⟩), .string n, .slice sL.p sL.n sL.c] 65 (0, 0)) :: ownE sL L :: ownE s l :: dsk d size F :: cs) H) (k : ∀ H', HL.Holds (dsk d size (repM size F n (fileE l)) :: blk c (.cells #[.pointer (some ⟨d, 0, none⟩), .string n, .slice sL.p sL.n sL.c] 65 (0, 0)) :: ownE sL L :: ownE s l :: cs) H' → K (.int .i64 (repC size F n (fileE l))) H') =>
      replace_spec (n := n) (b := fileE l) (d := d) (h.tail.pull 3 rfl) (K := K) fun H' h' => k H' h'
    have eF : strN (fourN (crcN (bodyE l))) ++ strN (bodyE l) = fileE l := strN_app _ _
    refine ⟨fun nn H' => nn = repC size F n (fileE l) ∧ HL.Holds (dsk d size (repM size F n (fileE l)) :: blk c (.cells #[.pointer (some ⟨d, 0, none⟩), .string n, .slice sL.p sL.n sL.c] 65 (0, 0)) :: ownE sL L :: ownE s l :: cs) H', ?_, ?_⟩
    · rw [← eF] at *
      repeat' (first
        | exact HL.Sub.refl _
        | exact ⟨rfl, rfl, h⟩
        | refine ⟨_, h.cell 1 rfl rfl, ?_⟩
        | refine B h fun H h => ⟨_, rfl, ?_⟩
        | refine S h fun H h => ⟨_, rfl, ?_⟩
        | refine R h fun H h => ⟨_, rfl, ?_⟩
        | refine ⟨(by rw [hs1, hs2]; omega), ?_⟩
        | refine And.intro ?_ ?_)
    · rintro nn H12 ⟨rfl, h12⟩
      refine br_intro (fun u => ?_) (fun u => ?_)
      · have u : repC size F n (fileE l) = 0 := by simpa using u
        rw [if_pos u] at k
        refine h12.store 1 rfl (by simp) fun H13 h13 => k H13 (cch_open.2 ⟨s, ?_⟩)
        have h13 : HL.Holds (dsk d size (repM size F n (fileE l)) :: blk c (.cells #[.pointer (some ⟨d, 0, none⟩), .string n, .slice s.p s.n s.c] 65 (0, 0)) :: ownE sL L :: ownE s l :: cs) H13 := h13
        exact ((h13.pull 2 rfl).tail.down 2)
      · have u : ¬ repC size F n (fileE l) = 0 := by simpa using u
        rw [if_neg u] at k
        refine k H12 (cch_open.2 ⟨sL, ?_⟩)
        exact ((h12.pull 3 rfl).tail.down 2)
end
end Go.Proofs.YtdgmifbcbmndgaaGreatDoor
