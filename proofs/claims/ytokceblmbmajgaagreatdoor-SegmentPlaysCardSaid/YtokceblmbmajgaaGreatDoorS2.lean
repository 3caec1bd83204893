/- Chapter 5: wire.ReadBatch, of a batch's bytes, and of a beginning of them. -/
import Derived.Test.YtokceblmbmajgaaGreatDoorS1
namespace Go.Proofs.YtokceblmbmajgaaGreatDoor
open Go Go.HL
set_option maxHeartbeats 3200000
set_option maxRecDepth 10000

theorem okRc : ElemOK Tryz.prog 38 86 3 := ElemOK.of (by kernel_rfl)
abbrev ownR (s : Sl) (l : List Rcd) : Chunk := own 86 3 s (l.flatMap eR)
theorem ownR_gives {s : Sl} {l : List Rcd} (hl : l.length ≤ 1000000) : Gives (ownR s l) fun A => Recs eR A s l := ⟨Own.mono, fun _ h => Own.recs eRlen (by decide) h (by omega)⟩
/-- What the fields hold when so many are read. -/
def hdrC (b : Ba) (i : Int) (s : Sl) : Array Value := #[.int .i64 (if 1 ≤ i then b.base else 0), .int .i64 (if 2 ≤ i then b.epoch else 0), .int .i64 (if 3 ≤ i then b.pid else 0), .int .i64 (if 4 ≤ i then b.pe else 0), .int .i64 (if 5 ≤ i then b.seq else 0), .slice s.p s.n s.c]
def rest5 (b : Ba) : List Nat := encN (b.recs.length : Nat) ++ b.recs.flatMap recN
def restF (b : Ba) (i : Int) : List Nat := if i ≤ 0 then bodyB b else if i ≤ 1 then encN b.epoch ++ (encN b.pid ++ (encN b.pe ++ (encN b.seq ++ rest5 b))) else if i ≤ 2 then encN b.pid ++ (encN b.pe ++ (encN b.seq ++ rest5 b)) else if i ≤ 3 then encN b.pe ++ (encN b.seq ++ rest5 b) else if i ≤ 4 then encN b.seq ++ rest5 b else rest5 b
theorem rest5_b (b : Ba) : ∀ x ∈ rest5 b, x < 256 := app_bytes (encN_bytes _) (recsN_b _)
section
variable {cs : List Chunk} {H : Heap} {K : Value → Heap → Prop}
theorem readBatch_ok {b : Ba} {r : List Nat} (h : HL.Holds cs H) (hok : rightB b = 0) (hr : ∀ x ∈ r, x < 256) (hsz : r.length ≤ 268435456)
    (k : ∀ (s : Sl) H', HL.Holds (ownR s b.recs :: cs) H' → K (.tuple #[.agg #[.int .i64 b.base, .int .i64 b.epoch, .int .i64 b.pid, .int .i64 b.pe, .int .i64 b.seq, .slice s.p s.n s.c], .int .i64 (flen b : Nat), .int .i64 0]) H') : FnH Tryz.prog 39 #[.string (strN (frameB b ++ r))] H K := by
  apply wire_ReadBatch_fn
  unfold wire_ReadBatch_vc
  have hk := right_facts hok
  have hl := hk.len
  have hf := flen_eq b
  have hbb := bodyB_b b
  have hz : (strN (frameB b ++ r)).size = flen b + r.length := app_size (frameB_b b) hr
  have e0 : frameB b ++ r = fourN (bodyB b).length ++ (fourN (crcN (bodyB b)) ++ (bodyB b ++ r)) := by unfold frameB; simp
  have e1 : frameB b ++ r = (fourN (bodyB b).length ++ fourN (crcN (bodyB b))) ++ (bodyB b ++ r) := by unfold frameB; simp
  have l4 : ∀ n, (fourN n).length = 4 := fun _ => rfl
  refine br_f (decide_eq_false (by omega)) (four5_spec (c := (bodyB b).length) (r := fourN (crcN (bodyB b)) ++ (bodyB b ++ r)) (by rw [nb_str (app_bytes (frameB_b b) hr), e0]) (by omega) ⟨_, rfl, br_f (decide_eq_false (by omega)) ?_⟩)
  rw [wrap64_id (n := ((strN (frameB b ++ r)).size : Int) - 8) (by omega) (by omega), wrap64_id (n := 8 + ((bodyB b).length : Int)) (by omega) (by omega)]
  have x1 : (strN (frameB b ++ r)).extract (Int.toNat 8) (Int.toNat (8 + ((bodyB b).length : Int))) = strN (bodyB b) := by
    rw [e1]
    exact ext_mid (app_bytes (fourN_bytes _) (fourN_bytes _)) hbb hr rfl (by rw [List.length_append, l4, l4]; omega)
  have x2 : (strN (frameB b ++ r)).extract (Int.toNat 4) (Int.toNat ((strN (frameB b ++ r)).size : Int)) = strN (fourN (crcN (bodyB b)) ++ (bodyB b ++ r)) := by
    rw [Int.toNat_natCast, hz, e0]
    exact ext_skip (fourN_bytes _) (app_bytes (fourN_bytes _) (app_bytes hbb hr)) rfl (by simp only [List.length_append, l4]; omega)
  rw [x1, x2]
  have hzb := strN_size hbb
  refine br_f (decide_eq_false (by omega)) ⟨by omega, by omega, by decide, by omega, by decide, by omega, crc_spec (by omega) ⟨_, rfl, HL.Sub.refl _, ?_⟩⟩
  rw [nb_str hbb]
  refine four5_spec (c := crcN (bodyB b)) (r := bodyB b ++ r) (nb_str (app_bytes (fourN_bytes _) (app_bytes hbb hr))) (crcN_lt _ hbb) ⟨_, rfl, HL.Sub.refl _, br_f (by simp) ⟨by omega, by omega, by decide, by omega, ?_⟩⟩
  have h0 : HL.Holds (ownR ⟨none, 0, 0⟩ [] :: cs) H := h.own_nil 86 3
  refine h0.new fun q1 H4 h4 => ?_
  have n5 := rest5_b b
  have i1 : i64B b.base := ⟨by have := hk.base; omega, by have := hk.base; omega⟩
  have i2 : i64B b.epoch := ⟨by have := hk.epoch; omega, by have := hk.epoch; omega⟩
  have i3 : i64B b.pid := ⟨by have := hk.pid; omega, by have := hk.pid; omega⟩
  have i4 : i64B b.pe := ⟨by have := hk.pe; omega, by have := hk.pe; omega⟩
  have i5 : i64B b.seq := ⟨by have := hk.seq; omega, by have := hk.seq; omega⟩
  refine ⟨fun i s ok H' => 0 ≤ i ∧ i ≤ 5 ∧ ok = true ∧ s = strN (restF b i) ∧ HL.Holds (blk q1 (.cells (hdrC b i ⟨none, 0, 0⟩) 40 (0, 0)) :: ownR ⟨none, 0, 0⟩ [] :: cs) H', fun i _ _ _ => (5 - i).toNat, ⟨Int.le_refl _, by decide, rfl, rfl, h4⟩, ?_⟩
  clear h4
  rintro i s ok H5 ⟨a0, a1, rfl, rfl, h5⟩
  refine br_intro (fun q => ?_) (fun q => ?_)
  · have q := of_decide_eq_true q
    have hi : i = 0 ∨ i = 1 ∨ i = 2 ∨ i = 3 ∨ i = 4 := by omega
    rcases hi with rfl | rfl | rfl | rfl | rfl
    · exact ⟨by decide, by decide, _, rfl, rint_lent (n := b.base) (r := encN b.epoch ++ (encN b.pid ++ (encN b.pe ++ (encN b.seq ++ rest5 b)))) h5 i1 (app_bytes (encN_bytes _) (app_bytes (encN_bytes _) (app_bytes (encN_bytes _) (app_bytes (encN_bytes _) n5)))) fun H6 h6 => h6.store 0 rfl (by simp [hdrC]) fun H7 h7 => ⟨rfl, ⟨by decide, by decide, rfl, rfl, h7⟩, by dsimp only; decide⟩⟩
    · exact ⟨by decide, by decide, _, rfl, rint_lent (n := b.epoch) (r := encN b.pid ++ (encN b.pe ++ (encN b.seq ++ rest5 b))) h5 i2 (app_bytes (encN_bytes _) (app_bytes (encN_bytes _) (app_bytes (encN_bytes _) n5))) fun H6 h6 => h6.store 0 rfl (by simp [hdrC]) fun H7 h7 => ⟨rfl, ⟨by decide, by decide, rfl, rfl, h7⟩, by dsimp only; decide⟩⟩
    · exact ⟨by decide, by decide, _, rfl, rint_lent (n := b.pid) (r := encN b.pe ++ (encN b.seq ++ rest5 b)) h5 i3 (app_bytes (encN_bytes _) (app_bytes (encN_bytes _) n5)) fun H6 h6 => h6.store 0 rfl (by simp [hdrC]) fun H7 h7 => ⟨rfl, ⟨by decide, by decide, rfl, rfl, h7⟩, by dsimp only; decide⟩⟩
    · exact ⟨by decide, by decide, _, rfl, rint_lent (n := b.pe) (r := encN b.seq ++ rest5 b) h5 i4 (app_bytes (encN_bytes _) n5) fun H6 h6 => h6.store 0 rfl (by simp [hdrC]) fun H7 h7 => ⟨rfl, ⟨by decide, by decide, rfl, rfl, h7⟩, by dsimp only; decide⟩⟩
    · exact ⟨by decide, by decide, _, rfl, rint_lent (n := b.seq) (r := rest5 b) h5 i5 n5 fun H6 h6 => h6.store 0 rfl (by simp [hdrC]) fun H7 h7 => ⟨rfl, ⟨by decide, by decide, rfl, rfl, h7⟩, by dsimp only; decide⟩⟩
  have q := of_decide_eq_false q
  have hi : i = 5 := by omega
  subst hi
  have hn := hk.few
  have h5 : HL.Holds (blk q1 (.cells #[.int .i64 b.base, .int .i64 b.epoch, .int .i64 b.pid, .int .i64 b.pe, .int .i64 b.seq, .slice none 0 0] 40 (0, 0)) :: ownR ⟨none, 0, 0⟩ [] :: cs) H5 := h5
  refine rint_lent (n := (b.recs.length : Nat)) (r := b.recs.flatMap recN) h5 ⟨by omega, by omega⟩ (recsN_b _) fun H10 h10 => ?_
  refine ⟨fun i s ok H' => ok = true ∧ ∃ (j : Nat) (sl : Sl), j ≤ b.recs.length ∧ i = (b.recs.length : Int) - j ∧ s = strN ((b.recs.drop j).flatMap recN) ∧ HL.Holds (blk q1 (.cells #[.int .i64 b.base, .int .i64 b.epoch, .int .i64 b.pid, .int .i64 b.pe, .int .i64 b.seq, .slice sl.p sl.n sl.c] 40 (0, 0)) :: ownR sl (b.recs.take j) :: cs) H', fun i _ _ _ => i.toNat, ⟨rfl, 0, ⟨none, 0, 0⟩, Nat.zero_le _, by omega, rfl, h10⟩, ?_⟩
  clear h10 h5
  rintro i s ok H11 ⟨rfl, j, sl, j1, rfl, rfl, h11⟩
  have hsl : sl.n = j := by
    have := (Own.recs eRlen (by decide) (h11.own 1 rfl) (by rw [List.length_take]; omega)).len
    rw [List.length_take] at this; omega
  refine br_intro (fun w => br_t rfl ⟨sl, h11.cell 0 rfl rfl, br_t (decide_eq_true (by have := of_decide_eq_true w; omega)) ?_⟩) (fun w => ?_)
  · have w := of_decide_eq_true w
    have hj : j < b.recs.length := by omega
    obtain ⟨rc, hrc⟩ : ∃ rc, b.recs[j]? = some rc := ⟨b.recs[j], List.getElem?_eq_getElem hj⟩
    have hd : b.recs.drop j = rc :: b.recs.drop (j + 1) := by
      rw [List.drop_eq_getElem_cons hj]
      have := List.getElem?_eq_getElem hj
      rw [hrc] at this
      rw [Option.some.inj this]
    have htake : b.recs.take (j + 1) = b.recs.take j ++ [rc] := by rw [List.take_add_one, hrc]; rfl
    have hm := List.mem_of_getElem? hrc
    obtain ⟨t1, t2⟩ := hk.text rc hm
    have t3 := hk.time rc hm
    have er : (b.recs.drop j).flatMap recN = encN rc.2.2 ++ (textN rc.1 ++ (textN rc.2.1 ++ (b.recs.drop (j + 1)).flatMap recN)) := by rw [hd, List.flatMap_cons]; unfold recN; simp
    rw [er]
    have hrb := recsN_b (b.recs.drop (j + 1))
    refine rint_lent h11 ⟨by omega, by omega⟩ (app_bytes (textN_b _) (app_bytes (textN_b _) hrb)) fun H13 h13 => ?_
    refine rtext_lent h13 (by omega) (by omega) (app_bytes (textN_b _) hrb) fun H15 h15 => ?_
    refine rtext_lent h15 (by omega) (by omega) hrb fun H17 h17 => ⟨sl, h17.cell 0 rfl rfl, ?_⟩
    refine Holds.push okRc h17.swap (xs := [.string rc.1, .string rc.2.1, .int .i64 rc.2.2]) (m := 1) rfl rfl (by omega) fun r2 H19 h19 n19 => ⟨r2, rfl, ?_⟩
    rw [wrap64_id (n := (b.recs.length : Int) - j - 1) (by omega) (by omega)]
    refine h19.store 1 rfl (by simp) fun H20 h20 => ⟨rfl, ⟨rfl, j + 1, r2, by omega, by omega, rfl, ?_⟩, by dsimp only; omega⟩
    have e : (b.recs.take j).flatMap eR ++ [.string rc.1, .string rc.2.1, .int .i64 rc.2.2] = (b.recs.take (j + 1)).flatMap eR := by rw [htake, List.flatMap_append]; rfl
    have h20 : HL.Holds (own 86 3 r2 ((b.recs.take j).flatMap eR ++ [.string rc.1, .string rc.2.1, .int .i64 rc.2.2]) :: blk q1 (.cells #[.int .i64 b.base, .int .i64 b.epoch, .int .i64 b.pid, .int .i64 b.pe, .int .i64 b.seq, .slice r2.p r2.n r2.c] 40 (0, 0)) :: cs) H20 := h20
    rw [e] at h20
    exact h20.swap
  · have w := of_decide_eq_false w
    have hj : j = b.recs.length := by omega
    subst hj
    rw [List.drop_length]
    rw [List.take_length] at h11
    refine br_f rfl (br_f (by decide +kernel) ⟨_, h11.cell 0 rfl rfl, _, h11.cell 0 rfl rfl, _, h11.cell 0 rfl rfl, _, h11.cell 0 rfl rfl, _, h11.cell 0 rfl rfl, sl, h11.cell 0 rfl rfl, ?_⟩)
    refine right_spec (i := 1) h11 (ownR_gives (by omega)) rfl fun H23 h23 => ⟨_, rfl, br_f (by have := hok; unfold rightB at this; rw [this]; rfl) ⟨_, h23.cell 0 rfl rfl, _, h23.cell 0 rfl rfl, _, h23.cell 0 rfl rfl, _, h23.cell 0 rfl rfl, _, h23.cell 0 rfl rfl, sl, h23.cell 0 rfl rfl, ?_⟩⟩
    have := k sl H23 h23.tail
    rw [hf] at this
    exact this
theorem readBatch_short {b : Ba} {m : Nat} (hok : rightB b = 0) (hm : m < flen b) (k : K (.tuple #[.agg #[.int .i64 0, .int .i64 0, .int .i64 0, .int .i64 0, .int .i64 0, .slice none 0 0], .int .i64 0, .int .i64 5]) H) : FnH Tryz.prog 39 #[.string (strN ((frameB b).take m))] H K := by
  apply wire_ReadBatch_fn
  unfold wire_ReadBatch_vc
  have hk := right_facts hok
  have hl := hk.len
  have hf := flen_eq b
  have htb : ∀ x ∈ (frameB b).take m, x < 256 := fun x hx => frameB_b b x (List.mem_of_mem_take hx)
  have hz : (strN ((frameB b).take m)).size = m := by
    rw [strN_size htb, List.length_take]; unfold flen at hm; omega
  refine br_intro (fun _ => k) (fun q => ?_)
  have q := of_decide_eq_false q
  have e0 : (frameB b).take m = fourN (bodyB b).length ++ ((fourN (crcN (bodyB b)) ++ bodyB b).take (m - 4)) := by
    have l4 : (fourN (bodyB b).length).length = 4 := rfl
    unfold frameB
    rw [List.take_append, l4, List.take_of_length_le (by omega)]
  refine four5_spec (c := (bodyB b).length) (by rw [nb_str htb, e0]) (by omega) ⟨_, rfl, br_f (decide_eq_false (by omega)) ?_⟩
  rw [wrap64_id (n := ((strN ((frameB b).take m)).size : Int) - 8) (by omega) (by omega)]
  exact br_t (decide_eq_true (by omega)) k
end
end Go.Proofs.YtokceblmbmajgaaGreatDoor
