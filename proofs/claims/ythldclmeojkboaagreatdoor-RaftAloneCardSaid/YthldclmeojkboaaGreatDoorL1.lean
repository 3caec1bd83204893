import Derived.Test.YthldclmeojkboaaGreatDoorBM
import Derived.Test.YthldclmeojkboaaGreatDoorV5
namespace Go.Proofs.YthldclmeojkboaaGreatDoor
open Go Go.HL
set_option maxHeartbeats 3200000
set_option maxRecDepth 100000
structure Op where
  kind : Int
  n : Int
  now : Int
  m : Mw
  l : List En
  fits : Bool
  text : ByteArray
def Given (g : List En) (st : RS) : Prop := ∀ x ∈ g, x.1 ≤ st.term ∧ (x.1 = st.term → x.2.1 = st.vote ∧ st.vote ≠ 0)
theorem Given.voted {g : List En} {a b : RS} (h : Given g a) (v : Voted a b) : Given g b := fun x hx => by
  obtain ⟨h1, h2⟩ := h x hx
  have v1 := v.1
  refine ⟨by omega, fun e => ?_⟩
  have e1 : x.1 = a.term := by omega
  obtain ⟨h3, h4⟩ := h2 e1
  have := v.2 (by omega) h4
  rw [this]; exact ⟨h3, h4⟩
section
variable {cs : List Chunk} {H A : Heap} {K : Value → Heap → Prop} {q c d : Nat} {size : Int} {s : Sl} {bs : List Nat} {n : Nd}
theorem nodB_disk (h : HL.Holds (nodB A q c d size s bs n :: cs) H) : HL.Holds (lgd d size n.st :: cs) H := by
  obtain ⟨o, ms, e, h1⟩ := nodB_open.1 h
  have h2 : HL.Holds (lgu c d size n.st :: blk q (.cells (nArr c s n o) 96 (0, 0)) :: ((own 33 21 o (ms.flatMap eM) :: own 107 1 s (bs.flatMap ePt) :: peersL bs n.ps) ++ cs)) H := HL.Holds.swap h1
  have h3 : HL.Holds (lgu c d size n.st :: ((blk q (.cells (nArr c s n o) 96 (0, 0)) :: own 33 21 o (ms.flatMap eM) :: own 107 1 s (bs.flatMap ePt) :: peersL bs n.ps) ++ cs)) H := h2
  have h4 : HL.Holds ((lgu c d size n.st :: cs) ++ (blk q (.cells (nArr c s n o) 96 (0, 0)) :: own 33 21 o (ms.flatMap eM) :: own 107 1 s (bs.flatMap ePt) :: peersL bs n.ps)) H := h3.perm (List.Perm.cons _ List.perm_append_comm)
  obtain ⟨B, C, e, dd, p, -⟩ := Holds.app.1 h4
  subst e
  exact lgu_lgd (p.up HL.Sub.left)
end
end Go.Proofs.YthldclmeojkboaaGreatDoor
