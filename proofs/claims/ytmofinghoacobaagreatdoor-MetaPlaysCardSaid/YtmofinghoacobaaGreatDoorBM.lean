import Derived.Test.YtmofinghoacobaaGreatDoorV6
import Derived.Test.YtmofinghoacobaaGreatDoorAM
import Derived.Test.YtmofinghoacobaaGreatDoorLays
import Derived.Test.YtmofinghoacobaaGreatDoorHlSortS
import Derived.Test.YtmofinghoacobaaGreatDoorHlCell
import Derived.Test.YtmofinghoacobaaGreatDoorV7
import Derived.Test.YtmofinghoacobaaGreatDoorHlLaw
import Derived.Test.YtmofinghoacobaaGreatDoorV8
import Derived.Sort.OwnSorted
import Derived.Test.YtmofinghoacobaaGreatDoorV9
namespace Go.Proofs.YtmofinghoacobaaGreatDoor
open Go Go.HL Go.RowKit Go.Maps Go.Shelf
set_option maxHeartbeats 3200000
set_option maxRecDepth 100000
abbrev iv (l : List Int) : List Value := l.map (Value.int .i64)
theorem iv_set (l : List Int) (i : Nat) (v : Int) : (iv l).set i (.int .i64 v) = iv (l.set i v) := by simp [iv, List.map_set]
theorem own_ints {H : Heap} {s : Sl} {l : List Int} (h : Own H 3 1 s (iv l)) (hb : l.length ≤ 1000000) : Ints H s l := Own.ints h (by omega)
theorem u22 : Tryz.prog.underlying 22 = some (.slice 3) := by kernel_rfl
theorem z3 : zeroT Tryz.prog 3 = some (.int .i64 0) := by kernel_rfl
abbrev butP (P : Int → Bool) (l : List Int) : List Int := l.filter fun a => !P a
theorem butP_all {l : List Int} {P : Int → Bool} (h : ∀ x ∈ l, ¬ P x = true) : butP P l = l := List.filter_eq_self.2 fun a ha => by simpa using h a ha
theorem ro_open {c : Chunk} {cs : List Chunk} {H H' : Heap} (h : HL.Holds cs H) (h' : HL.Holds [c, ro H] H') : HL.Holds (c :: cs) H' := by
  have h3 : HL.Holds (HL.Holds cs :: [c]) H' := h'.swap.head (d := HL.Holds cs) fun A hA => h.up hA
  exact (Holds.flat.1 h3).perm List.perm_append_comm
section
variable {cs : List Chunk} {H : Heap} {K : Value → Heap → Prop}
theorem indexf_spec {s : Sl} {l : List Int} {q : Nat} {P : Int → Bool} (h : Ints H s l) (hh : HL.Holds cs H) (hp : ∀ (x : Int) (H' : Heap) (K' : Value → Heap → Prop), HL.Holds cs H' → K' (.bool (P x)) H' → FnH Tryz.prog 46 #[.int .i64 x, .pointer (some ⟨q, 0, none⟩)] H' K')
    (k0 : (∀ x ∈ l, ¬ P x = true) → K (.int .i64 (-1)) H) (k1 : ∀ l1 v l2, l = l1 ++ v :: l2 → (∀ x ∈ l1, ¬ P x = true) → P v = true → K (.int .i64 (l1.length : Nat)) H) :
    FnH Tryz.prog 83 #[.slice s.p s.n s.c, .func (.func 46) #[] #[.pointer (some ⟨q, 0, none⟩)]] H K := by
  apply IndexFunc_Up_fn
  unfold IndexFunc_Up_vc
  have hl := h.len
  have hb := h.big
  refine ⟨fun n H1 => H1 = H ∧ 0 ≤ n ∧ n ≤ s.n ∧ ∀ x ∈ l.take n.toNat, ¬ P x = true, fun n _ => (s.n - n).toNat, ⟨rfl, Int.le_refl _, by omega, by simp⟩, ?_⟩
  rintro n H1 ⟨rfl, n0, n1, hn⟩
  refine br_intro (fun q => ?_) (fun q => ?_)
  · have q := of_decide_eq_true q
    obtain ⟨b, o, g1, g2, g3, g4⟩ := h.at_ n0 q
    have hnl : n.toNat < l.length := by omega
    have ex := List.take_append_drop n.toNat l
    rw [List.drop_eq_getElem_cons hnl] at ex
    have eg : l.getD n.toNat 0 = l[n.toNat] := by simp [List.getD, hnl]
    refine ⟨b, o, g1, g2, g3, _, g4, hp _ _ _ hh ⟨_, rfl, br_intro (fun q2 => ?_) (fun q2 => ?_)⟩⟩
    · rw [eg] at q2
      have := k1 _ _ _ ex.symm hn q2
      rw [List.length_take, Nat.min_eq_left (by omega), Int.toNat_of_nonneg n0] at this
      exact this
    · have q2 : ¬ P (l.getD n.toNat 0) = true := by rw [q2]; simp
      rw [wrap64_id (by omega) (by omega)]
      refine ⟨rfl, ⟨rfl, by omega, by omega, ?_⟩, by dsimp only; omega⟩
      rw [take_next (d := 0) n0 (by omega)]
      intro x hx
      rcases List.mem_append.1 hx with w | w
      · exact hn x w
      · rw [List.mem_singleton.1 w]; exact q2
  · have q := of_decide_eq_false q
    rw [take_all (by omega)] at hn
    exact k0 hn
theorem delete_spec {s : Sl} {l : List Int} {q : Nat} {P : Int → Bool} (h : HL.Holds (own 3 1 s (iv l) :: cs) H) (hb : l.length ≤ 1000000) (hp : ∀ (x : Int) (H' : Heap) (K' : Value → Heap → Prop), HL.Holds cs H' → K' (.bool (P x)) H' → FnH Tryz.prog 46 #[.int .i64 x, .pointer (some ⟨q, 0, none⟩)] H' K')
    (k : ∀ (r : Sl) H', HL.Holds (own 3 1 r (iv (butP P l)) :: cs) H' → K (.slice r.p r.n r.c) H') : FnH Tryz.prog 45 #[.slice s.p s.n s.c, .func (.func 46) #[] #[.pointer (some ⟨q, 0, none⟩)]] H K := by
  apply DeleteFunc_Up_fn
  unfold DeleteFunc_Up_vc
  have hi := own_ints (h.own 0 rfl) hb
  have hl := hi.len
  refine indexf_spec hi h.tail hp (fun hn => ⟨_, rfl, br_t rfl ?_⟩) fun l1 v l2 el hn1 hv => ⟨_, rfl, br_f (by simp) ?_⟩
  · rw [butP_all hn] at k
    exact k s H h
  · have hlen : l.length = l1.length + 1 + l2.length := by rw [el]; simp; omega
    rw [wrap64_id (n := (l1.length : Int) + 1) (by omega) (by omega)]
    refine ⟨fun i j H2 => ∃ cur : List Int, cur.length = l.length ∧ 0 ≤ i ∧ i < j ∧ j ≤ l.length ∧ cur.take i.toNat = butP P (l.take j.toNat) ∧ cur.drop j.toNat = l.drop j.toNat ∧ HL.Holds (own 3 1 s (iv cur) :: cs) H2,
      fun _ j _ => (l.length - j).toNat, ⟨l, rfl, by omega, by omega, by omega, ?_, rfl, h⟩, ?_⟩
    · have e1 : ((l1.length : Int) + 1).toNat = l1.length + 1 := by omega
      have e2 : ((l1.length : Int)).toNat = l1.length := by omega
      rw [e1, e2, el]
      have e3 : (l1 ++ v :: l2).take l1.length = l1 := by simp
      have e4 : (l1 ++ v :: l2).take (l1.length + 1) = l1 ++ [v] := by rw [List.take_append, List.take_of_length_le (by omega)]; simp
      have e5 : l1.filter (fun a => !P a) = l1 := butP_all hn1
      rw [e3, e4, butP, List.filter_append, e5]
      simp [hv]
    rintro i j H2 ⟨cur, hc, i0, ij, jl, ht, hd, h2⟩
    have hi2 := own_ints (h2.own 0 rfl) (by omega)
    refine br_intro (fun q2 => ?_) (fun q2 => ?_)
    · have q2 := of_decide_eq_true q2
      obtain ⟨b, o, g1, g2, g3, g4⟩ := hi2.at_ (j := j) (by omega) q2
      have hjl : j.toNat < l.length := by omega
      have hjc : j.toNat < cur.length := by omega
      have ecl : cur.getD j.toNat 0 = l[j.toNat] := by
        have e1 : cur[j.toNat]? = l[j.toNat]? := by
          have := congrArg (fun x => x[0]?) hd
          simpa [List.getElem?_drop] using this
        rw [List.getD_eq_getElem?_getD, e1, List.getElem?_eq_getElem hjl]; rfl
      have etj : l.take (j + 1).toNat = l.take j.toNat ++ [l[j.toNat]] := by
        have e : (j + 1).toNat = j.toNat + 1 := by omega
        rw [e, List.take_succ_eq_append_getElem hjl]
      refine ⟨b, o, g1, g2, g3, _, g4, hp _ _ _ h2.tail ⟨_, rfl, ?_⟩⟩
      rw [ecl]
      have edrop : ∀ c2 : List Int, c2.drop j.toNat = cur.drop j.toNat → c2.drop (j + 1).toNat = l.drop (j + 1).toNat := fun c2 e => by
        have e1 : (j + 1).toNat = j.toNat + 1 := by omega
        rw [e1, ← List.drop_drop, ← List.drop_drop, e, hd]
      rw [wrap64_id (n := i + 1) (by omega) (by omega), wrap64_id (n := j + 1) (by omega) (by omega)]
      refine br_intro (fun q3 => ?_) (fun q3 => ?_)
      · have q3 : (!P l[j.toNat]) = true := q3
        obtain ⟨q4, o4, f1, f2, f3, f4, f5, f6⟩ := h2.setAt (i := i) i0 (by omega) (v := .int .i64 l[j.toNat]) (f := fun H4 => SelfEq ([.v (.slice s.p s.n s.c), .v (.func (.func 46) #[] #[.pointer (some ⟨q, 0, none⟩)])], [], []) ∧
          (∃ cur : List Int, cur.length = l.length ∧ 0 ≤ i + 1 ∧ i + 1 < j + 1 ∧ j + 1 ≤ l.length ∧ cur.take (i + 1).toNat = butP P (l.take (j + 1).toNat) ∧
            cur.drop (j + 1).toNat = l.drop (j + 1).toNat ∧ HL.Holds (own 3 1 s (iv cur) :: cs) H4) ∧ (l.length - (j + 1)).toNat < (l.length - j).toNat) fun H4 h4 => by
            rw [iv_set] at h4
            refine ⟨rfl, ⟨cur.set i.toNat l[j.toNat], by simpa using hc, by omega, by omega, by omega, ?_, ?_, h4⟩, by omega⟩
            · have e1 : (i + 1).toNat = i.toNat + 1 := by omega
              have hil : i.toNat < (cur.set i.toNat l[j.toNat]).length := by simp; omega
              rw [e1, List.take_succ_eq_append_getElem hil, etj, butP, List.filter_append, List.filter_cons_of_pos (by exact q3)]
              rw [List.take_set_of_le (Nat.le_refl _), ht]
              simp
            · exact edrop _ (by rw [List.drop_set_of_lt (by omega)])
        exact ⟨q4, o4, f1, f2, f3, f4, f5, f6⟩
      · have q3 : (!P l[j.toNat]) = false := q3
        refine ⟨rfl, ⟨cur, hc, i0, by omega, by omega, ?_, edrop cur rfl, h2⟩, by dsimp only; omega⟩
        rw [etj, butP, List.filter_append, List.filter_cons_of_neg (by rw [q3]; simp), List.filter_nil, List.append_nil]; exact ht
    · have q2 := of_decide_eq_false q2
      have ej : j = l.length := by omega
      subst ej
      have hcap := hi2.cap
      refine ⟨i0, by omega, h2.clear (sz := 1) u22 z3 rfl (noTups_zeros (by simp [Value.cells, isTup])) i0 (by omega) fun ws H5 hw h5 => ⟨rfl, i0, by omega, ?_⟩⟩
      refine k (s.upto i 1) H5 (h5.head fun A hA => ?_)
      have := hA.shorten (i := i) i0 (by omega)
      have e1 : ((iv cur).take (i.toNat * 1) ++ ws).take (i.toNat * 1) = iv (butP P l) := by
        rw [Nat.mul_one, List.take_append_of_le_length (by simp; omega), List.take_take, Nat.min_self, ← List.map_take, ht]
        have : l.take ((l.length : Int)).toNat = l := List.take_of_length_le (by omega)
        rw [this]
      rw [e1] at this
      exact this
theorem sortsA (m : Nat) : AnyZI.SortsIn Tryz.prog Tryz.sortedA_ren Fence.wide m :=
  ⟨fun blk off cap ss W hH hblk hsz => callsIn_wide.2 (AnyM.slices_Sort_int Tryz.sortA blk off cap ss W hH hblk hsz),
   fun p cap W => callsIn_wide.2 (AnyM.slices_Sort_int_none Tryz.sortA p cap W)⟩
theorem keys_spec {b : Nat} (h : HL.Holds cs H) (k : ∀ q H', HL.Holds (blk q (.cells #[.map (some b)] 67 (0, 0)) :: cs) H' → K (.func (.func 130) #[] #[.pointer (some ⟨q, 0, none⟩)]) H') :
    FnH Tryz.prog 81 #[.map (some b)] H K :=
  keys_fn (T := 67) (g := 130) (fun w => (callsIn_wide (n := 5)).1 (AnyZI.keys_in Tryz.keysA Fence.wide 5 trivial rfl (some b) w)) h k
theorem sortedS_spec {q b : Nat} {l : List (Int × Value)} (h : HL.Holds cs H) (hq : H q = some (.cells #[.map (some b)] 67 (0, 0))) (hm : MapR H b (fun n : Int => Value.int .i64 n) l) (hn : (l.map Prod.fst).Nodup) (hlen : l.length ≤ 268435456)
    (hwf : ∀ x ∈ l.map Prod.fst, -9223372036854775808 ≤ x ∧ x ≤ 9223372036854775807)
    (k : ∀ (s : Sl) H', HL.Sub H H' → HL.Holds (HL.own 3 1 s (((l.map Prod.fst).mergeSort fun x y => decide (x ≤ y)).map (Value.int .i64)) :: cs) H' → K (.slice s.p s.n s.c) H') :
    FnH Tryz.prog 80 #[.func (.func 130) #[] #[.pointer (some ⟨q, 0, none⟩)]] H K :=
  sortedInt_fnS (g := 130) (kt := 3) (by kernel_rfl)
    (fun Bm b nn D0 w hBm hm hown => AnyZI.keys_gives (ρ := Tryz.keysA_ren) { Tryz.keysA with } Fence.wide _ trivial rfl (by omega) Bm b nn D0 w hBm hm hown)
    (fun lb S N w hN hNb hseq => (callsIn_wide (n := 5)).1 (AnyZI.sorted_in Tryz.sortedA Fence.wide 5 trivial trivial trivial trivial rfl (by omega) (sortsA _) (enters_of Tryz.func129 (by kernel_rfl) rfl) 130 lb trivial (enters_of Tryz.func130 (by kernel_rfl) rfl) S N hN hNb w hseq))
    h hq hm hn hlen hwf k
end
end Go.Proofs.YtmofinghoacobaaGreatDoor
namespace Go.Proofs.YtmofinghoacobaaGreatDoor
open Go Go.HL
set_option maxHeartbeats 3200000
set_option maxRecDepth 100000
abbrev Bs := List (Int × (Int × Bool))
abbrev encI : Int → Value := fun n => .int .i64 n
theorem kint : KeyOK Tryz.prog 3 encI := KeyOK.int (by kernel_rfl)
abbrev brV (x : Int × Bool) : Value := .agg #[.int .i64 x.1, .bool x.2]
abbrev bmap (B : Bs) : List (Int × Value) := B.map fun p => (p.1, brV p.2)
theorem look_bmap {B : Bs} {n : Int} : lookL (bmap B) n = (lookL B n).map brV := lookL_map (f := brV)
theorem z78 : zeroT Tryz.prog 78 = some (brV (0, false)) := by kernel_rfl
theorem m67 : Tryz.prog.underlying 67 = some (.map 3 78) := by kernel_rfl
abbrev Tp := ByteArray × Int × Int
abbrev eT : Tp → List Value := fun t => [.string t.1, .int .i64 t.2.1, .int .i64 t.2.2]
theorem eTlen : ∀ a, (eT a).length = 3 := fun _ => rfl
abbrev eP : PV → List Value := fun v => v.cells.toList
theorem ePlen : ∀ a, (eP a).length = 9 := fun _ => rfl
def PsIn (Lo A : Heap) (vs : List PV) (ps : List Part) : Prop := vs.length = ps.length ∧ (∀ (i : Nat) (v : PV) (p : Part), vs[i]? = some v → ps[i]? = some p → PIn A v p) ∧ HL.Sub Lo A
theorem PsIn.sub {Lo A A' : Heap} {vs : List PV} {ps : List Part} (h : PsIn Lo A vs ps) (s : HL.Sub A A') : PsIn Lo A' vs ps := ⟨h.1, fun i v p h1 h2 => (h.2.1 i v p h1 h2).sub s, h.2.2.trans s⟩
theorem PsIn.nil {Lo A : Heap} (s : HL.Sub Lo A) : PsIn Lo A [] [] := ⟨rfl, fun i v p h => by simp at h, s⟩
theorem PsIn.at_ {Lo A : Heap} {vs : List PV} {ps : List Part} (h : PsIn Lo A vs ps) {i : Nat} (hi : i < ps.length) : ∃ v p, vs[i]? = some v ∧ ps[i]? = some p ∧ PIn A v p := by
  have hv : i < vs.length := by rw [h.1]; exact hi
  have h1 : vs[i]? = some vs[i] := List.getElem?_eq_getElem hv
  have h2 : ps[i]? = some ps[i] := List.getElem?_eq_getElem hi
  exact ⟨_, _, h1, h2, h.2.1 _ _ _ h1 h2⟩
theorem PsIn.set {Lo A : Heap} {vs : List PV} {ps : List Part} (h : PsIn Lo A vs ps) {i : Nat} {v : PV} {p : Part} (hv : PIn A v p) : PsIn Lo A (vs.set i v) (ps.set i p) := by
  refine ⟨by rw [List.length_set, List.length_set, h.1], fun j w q h1 h2 => ?_, h.2.2⟩
  rw [List.getElem?_set] at h1 h2
  split at h1
  · rename_i e
    rw [if_pos e] at h2
    split at h1
    · rename_i e2
      split at h2
      · cases h1; cases h2; exact hv
      · cases h2
    · cases h1
  · rename_i e
    rw [if_neg e] at h2
    exact h.2.1 j w q h1 h2
theorem PsIn.snoc {Lo A : Heap} {vs : List PV} {ps : List Part} (h : PsIn Lo A vs ps) {v : PV} {p : Part} (hv : PIn A v p) : PsIn Lo A (vs ++ [v]) (ps ++ [p]) := by
  refine ⟨by simp [h.1], fun j w q h1 h2 => ?_, h.2.2⟩
  by_cases e : j < vs.length
  · rw [List.getElem?_append_left e] at h1
    rw [List.getElem?_append_left (by rw [← h.1]; exact e)] at h2
    exact h.2.1 j w q h1 h2
  · rw [List.getElem?_append_right (by omega)] at h1
    rw [List.getElem?_append_right (by rw [← h.1]; omega)] at h2
    rw [← h.1] at h2
    cases hj : j - vs.length with
    | zero =>
      rw [hj] at h1 h2
      simp at h1 h2
      subst h1; subst h2; exact hv
    | succ n => rw [hj] at h1; simp at h1
structure Pc where
  mb : Nat
  fs : Bs
  ts : Sl
  ps : Sl
  rs : Sl
  vs : List PV
  A : Heap
abbrev imgL (m : Nat) (I : Im) (c : Pc) : List Chunk := [blk m (.cells #[.int .i64 I.app, .map (some c.mb), .slice c.ts.p c.ts.n c.ts.c, .slice c.ps.p c.ps.n c.ps.c, .slice c.rs.p c.rs.n c.rs.c] 70 (0, 0)), mp c.mb encI (bmap c.fs), own 74 3 c.ts (I.top.flatMap eT), own 41 9 c.ps (c.vs.flatMap eP), own 3 1 c.rs (iv I.prd), ro c.A]
def img (Lo : Heap) (m : Nat) (I : Im) : Chunk := fun H => ∃ c : Pc, (List.Perm c.fs I.brk ∧ PsIn Lo c.A c.vs I.prt) ∧ HL.Holds (imgL m I c) H
theorem img_mono {Lo : Heap} {m : Nat} {I : Im} : Mono (img Lo m I) := fun _ _ hs ⟨c, e, h⟩ => ⟨c, e, h.up hs⟩
theorem img_open {cs : List Chunk} {H Lo : Heap} {m : Nat} {I : Im} : HL.Holds (img Lo m I :: cs) H ↔ ∃ c : Pc, (List.Perm c.fs I.brk ∧ PsIn Lo c.A c.vs I.prt) ∧ HL.Holds (imgL m I c ++ cs) H := by
  constructor
  · intro h
    obtain ⟨c, h⟩ := Holds.ex.1 h
    obtain ⟨e, h⟩ := Holds.pure.1 h
    exact ⟨c, e, Holds.flat.1 h⟩
  · rintro ⟨c, e, h⟩
    exact Holds.ex.2 ⟨c, Holds.pure.2 ⟨e, Holds.flat.2 h⟩⟩
section
variable {cs : List Chunk} {H Lo : Heap} {K : Value → Heap → Prop}
theorem img_low {m : Nat} {I : Im} (h : img Lo m I H) : HL.Sub Lo H := by
  obtain ⟨c, ⟨-, hP⟩, hh⟩ := h
  exact hP.2.2.trans (hh.sub 5 rfl)
theorem new12_spec (h : HL.Holds (ro Lo :: cs) H) (k : ∀ m H', HL.Holds (img Lo m newI :: cs) H' → K (.pointer (some ⟨m, 0, none⟩)) H') : FnH Tryz.prog 10 #[] H K := by
  apply meta_New_fn
  unfold meta_New_vc
  refine h.newMap encI fun mb H1 h1 => h1.new fun m H2 h2 => k m H2 (img_open.2 ⟨⟨mb, [], ⟨none, 0, 0⟩, ⟨none, 0, 0⟩, ⟨none, 0, 0⟩, [], Lo⟩, ⟨List.Perm.refl _, PsIn.nil (HL.Sub.refl _)⟩, ?_⟩)
  have h3 : HL.Holds (ro Lo :: blk m (.cells #[.int .i64 0, .map (some mb), .slice none 0 0, .slice none 0 0, .slice none 0 0] 70 (0, 0)) :: mp mb encI [] :: cs) H2 := h2.pull 2 rfl
  have h4 := ((h3.own_nil 3 1).own_nil 41 9).own_nil 74 3
  exact (h4.pull 5 rfl).pull 5 rfl
theorem nodup_brk {I : Im} (hok : ImOk I) : (I.brk.map Prod.fst).Nodup := hok.sorted.nodup ltI_ok
theorem ids_sorted {I : Im} (hok : ImOk I) {fs : Bs} (hp : List.Perm fs I.brk) : ((bmap fs).map Prod.fst).mergeSort (fun x y => decide (x ≤ y)) = I.brk.map Prod.fst := by
  have e : (bmap fs).map Prod.fst = fs.map Prod.fst := by simp [Function.comp_def]
  rw [e, mergeSort_of_perm_i (hp.map Prod.fst)]
  refine List.mergeSort_of_pairwise ?_
  refine List.pairwise_map.2 (hok.sorted.imp fun h => ?_)
  have := of_decide_eq_true h
  exact decide_eq_true (by omega)
theorem ids_spec12 {m i : Nat} {I : Im} (h : HL.Holds cs H) (ei : cs[i]? = some (img Lo m I)) (hok : ImOk I) (k : ∀ (s : Sl) H', HL.Sub H H' → HL.Holds [own 3 1 s (iv (I.brk.map Prod.fst)), ro H] H' → K (.slice s.p s.n s.c) H') : FnH Tryz.prog 40 #[.pointer (some ⟨m, 0, none⟩)] H K := by
  apply meta_Image_ids_fn
  unfold meta_Image_ids_vc
  obtain ⟨c, ⟨hp, -⟩, hh⟩ := h.read i ei img_mono
  refine ⟨_, hh.cell 0 rfl rfl, keys_spec (Holds.whole H) fun q H1 h1 => ⟨⟨_, _, _⟩, rfl, ?_⟩⟩
  have s1 := h1.sub 1 rfl
  have hm := (hh.up s1).map 1 rfl
  have hnd : ((bmap c.fs).map Prod.fst).Nodup := by
    have e : (bmap c.fs).map Prod.fst = c.fs.map Prod.fst := by simp [Function.comp_def]
    rw [e]; exact ((hp.map Prod.fst).nodup_iff).2 (nodup_brk hok)
  have hlen : (bmap c.fs).length ≤ 7 := by
    have h1 : (I.brk.map Prod.fst).length ≤ 7 := ids_len (decide_eq_true ⟨nodup_brk hok, fun x hx => by
      obtain ⟨y, hy, rfl⟩ := List.mem_map.1 hx
      have := hok.ids y hy
      omega⟩)
    rw [List.length_map] at h1 ⊢
    rw [hp.length_eq]; exact h1
  refine sortedS_spec h1 (h1.get 0 rfl) hm hnd (by omega) (fun x hx => ?_) fun s H2 s2 h2 => ⟨s, rfl, ?_⟩
  · obtain ⟨y, hy, rfl⟩ := List.mem_map.1 hx
    obtain ⟨z, hz, rfl⟩ := List.mem_map.1 hy
    have := hok.ids z (hp.mem_iff.1 hz)
    dsimp only
    omega
  · rw [ids_sorted hok hp] at h2
    exact k s H2 (s1.trans s2) (h2.pull 1 rfl).tail
end
end Go.Proofs.YtmofinghoacobaaGreatDoor
namespace Go.Proofs.YtmofinghoacobaaGreatDoor
open Go Go.HL
set_option maxHeartbeats 3200000
set_option maxRecDepth 100000
theorem brkOf_mem {B : Bs} (hn : (B.map Prod.fst).Nodup) {x : Int × (Int × Bool)} (hx : x ∈ B) : brkOf B x.1 = x.2 := by
  unfold brkOf
  rw [(lookL_iff hn (k := x.1) (v := x.2)).2 hx]; rfl
theorem up_filter {B : Bs} (hn : (B.map Prod.fst).Nodup) : butP (fun x => !(brkOf B x).2) (B.map Prod.fst) = upL B := by
  unfold butP upL
  rw [List.filter_map]
  congr 1
  refine List.filter_congr fun x hx => ?_
  show (!!(brkOf B x.1).2) = x.2.2
  rw [brkOf_mem hn hx, Bool.not_not]
theorem upL_len {I : Im} (hok : ImOk I) : (upL I.brk).length ≤ 7 := by
  have h1 : (I.brk.map Prod.fst).length ≤ 7 := ids_len (decide_eq_true ⟨nodup_brk hok, fun x hx => by
    obtain ⟨y, hy, rfl⟩ := List.mem_map.1 hx
    have := hok.ids y hy
    omega⟩)
  have h2 : (I.brk.filter fun x => x.2.2).length ≤ I.brk.length := List.length_filter_le _ _
  unfold upL
  rw [List.length_map] at h1 ⊢
  omega
section
variable {cs : List Chunk} {H Lo : Heap} {K : Value → Heap → Prop}
theorem look12 {mb : Nat} {fs : Bs} {I : Im} (hok : ImOk I) (hp : List.Perm fs I.brk) (hm : MapR H mb encI (bmap fs)) {x : Int} (k : K (brV (brkOf I.brk x)) H) : runH Tryz.prog (Instr.lookup 67 (.map (some mb)) (.int .i64 x) false) H K := by
  refine runH_lookup1 m67 kint z78 hm (k := x) ?_
  rw [look_bmap, look_perm hp ((hp.map Prod.fst).nodup_iff.2 (nodup_brk hok))]
  unfold brkOf at k
  cases e : lookL I.brk x <;> rw [e] at k <;> exact k
theorem look12b {mb : Nat} {fs : Bs} {I : Im} (hok : ImOk I) (hp : List.Perm fs I.brk) (hm : MapR H mb encI (bmap fs)) {x : Int} (k : K (.tuple #[brV (brkOf I.brk x), .bool (lookL I.brk x).isSome]) H) : runH Tryz.prog (Instr.lookup 67 (.map (some mb)) (.int .i64 x) true) H K := by
  refine runH_lookup m67 kint z78 hm (k := x) ?_
  rw [look_bmap, look_perm hp ((hp.map Prod.fst).nodup_iff.2 (nodup_brk hok))]
  unfold brkOf at k
  cases e : lookL I.brk x <;> rw [e] at k <;> exact k
theorem up_spec {m i : Nat} {I : Im} (h : HL.Holds cs H) (ei : cs[i]? = some (img Lo m I)) (hok : ImOk I) (k : ∀ (s : Sl) H', HL.Sub H H' → HL.Holds [own 3 1 s (iv (upL I.brk)), ro H] H' → K (.slice s.p s.n s.c) H') : FnH Tryz.prog 19 #[.pointer (some ⟨m, 0, none⟩)] H K := by
  apply meta_Image_Up_fn
  unfold meta_Image_Up_vc
  have hnd := nodup_brk hok
  refine (Holds.whole H).new fun q1 H1 h1 => ?_
  have s1 := h1.sub 1 rfl
  refine ⟨_, h1.cell 0 rfl rfl, ids_spec12 (h.up s1) ei hok fun s H2 s2 h2 => ⟨s, rfl, ?_⟩⟩
  have hil : (I.brk.map Prod.fst).length ≤ 7 := ids_len (decide_eq_true ⟨hnd, fun x hx => by
    obtain ⟨y, hy, rfl⟩ := List.mem_map.1 hx
    have := hok.ids y hy
    omega⟩)
  refine delete_spec (q := q1) (P := fun x => !(brkOf I.brk x).2) h2 (by omega) (fun x H' K' h' k' => ?_) fun r H3 h3 => ⟨r, rfl, ?_⟩
  · apply meta_Image_Up_1_fn
    unfold meta_Image_Up_1_vc
    have sb := h'.sub 0 rfl
    obtain ⟨c, ⟨hp, -⟩, hh⟩ := ((h.up s1).up sb).read i ei img_mono
    refine ⟨_, (h1.up sb).cell 0 rfl rfl, ptrm_intro rfl ⟨_, hh.cell 0 rfl rfl, look12 hok hp (hh.map 1 rfl) ⟨_, _, rfl, k'⟩⟩⟩
  · rw [up_filter hnd] at h3
    exact k r H3 (s1.trans (h3.sub 1 rfl)) ((h3.swap.head (d := ro H) fun A hA => s1.trans hA).swap)
end
end Go.Proofs.YtmofinghoacobaaGreatDoor
namespace Go.Proofs.YtmofinghoacobaaGreatDoor
open Go Go.HL
set_option maxHeartbeats 3200000
set_option maxRecDepth 100000
section
variable {cs : List Chunk} {H Lo : Heap} {K : Value → Heap → Prop}
theorem in_store {P : Program} {f : FuncId} {args : Array Value} {A : Heap} {Q : Value → Heap → Prop} (h : HL.Holds (ro A :: cs) H) (hs : ∀ (B : Heap) (K' : Value → Heap → Prop), HL.Sub A B → (∀ r B', HL.Sub B B' → Q r B' → K' r B') → FnH P f args B K')
    (k : ∀ r A' H', HL.Sub A A' → Q r A' → HL.Holds (ro A' :: cs) H' → K r H') : FnH P f args H K :=
  FnH.holds (c' := fun r A' => HL.Sub A A' ∧ Q r A') h (fun B hB => hs B _ hB fun r B' s q => ⟨hB.trans s, q⟩) fun r H' h' => by
    obtain ⟨A', R, e, d, ⟨s, q⟩, hR⟩ := h'
    exact k r A' H' s q ⟨A', R, e, d, HL.Sub.refl _, hR⟩
theorem into_store {A : Heap} {c : Chunk} (h : HL.Holds (c :: ro A :: cs) H) (hm : Mono c) : ∃ A', HL.Sub A A' ∧ c A' ∧ HL.Holds (ro A' :: cs) H := by
  have h2 : HL.Holds (HL.Holds [c, ro A] :: cs) H := Holds.flat.2 h
  obtain ⟨A', R, e, d, hA, hR⟩ := h2
  exact ⟨A', hA.sub 1 rfl, hA.read 0 rfl hm, ⟨A', R, e, d, HL.Sub.refl _, hR⟩⟩
theorem set9 {vs : List PV} {j : Nat} {v : PV} (hv : vs[j]? = some v) (u : PV) :
    ((((((((((vs.flatMap eP).set (j * 9) (.int .i64 u.id)).set (j * 9 + 1) (.int .i64 u.leader)).set (j * 9 + 2) (.int .i64 u.epoch)).set (j * 9 + 3) (.int .i64 u.version)).set (j * 9 + 4) (.slice u.isr.p u.isr.n u.isr.c)).set (j * 9 + 5) (.slice u.replicas.p u.replicas.n u.replicas.c)).set (j * 9 + 6) (.slice u.adding.p u.adding.n u.adding.c)).set (j * 9 + 7) (.slice u.removing.p u.removing.n u.removing.c)).set (j * 9 + 8) (.int .i64 u.min)) = (vs.set j u).flatMap eP := by
  have hj := (List.getElem?_eq_some_iff.1 hv).1
  have e0 := flat_set (enc := eP) (k := 9) ePlen (l := vs) (j := j) (a := v) (a' := { v with id := u.id }) (f := 0) (v := .int .i64 u.id) hv (by decide) rfl
  have g : ∀ w : PV, (vs.set j w)[j]? = some w := fun w => by rw [List.getElem?_set_self hj]
  have step : ∀ (w w' : PV) (f : Nat) (x : Value), f < 9 → eP w' = (eP w).set f x → ((vs.set j w).flatMap eP).set (j * 9 + f) x = (vs.set j w').flatMap eP := fun w w' f x hf he => by
    rw [flat_set (enc := eP) (k := 9) ePlen (g w) hf he, List.set_set]
  rw [Nat.add_zero] at e0
  rw [e0, step ⟨u.id, v.leader, v.epoch, v.version, v.isr, v.replicas, v.adding, v.removing, v.min⟩ ⟨u.id, u.leader, v.epoch, v.version, v.isr, v.replicas, v.adding, v.removing, v.min⟩ 1 (.int .i64 u.leader) (by decide) rfl,
    step ⟨u.id, u.leader, v.epoch, v.version, v.isr, v.replicas, v.adding, v.removing, v.min⟩ ⟨u.id, u.leader, u.epoch, v.version, v.isr, v.replicas, v.adding, v.removing, v.min⟩ 2 (.int .i64 u.epoch) (by decide) rfl,
    step ⟨u.id, u.leader, u.epoch, v.version, v.isr, v.replicas, v.adding, v.removing, v.min⟩ ⟨u.id, u.leader, u.epoch, u.version, v.isr, v.replicas, v.adding, v.removing, v.min⟩ 3 (.int .i64 u.version) (by decide) rfl,
    step ⟨u.id, u.leader, u.epoch, u.version, v.isr, v.replicas, v.adding, v.removing, v.min⟩ ⟨u.id, u.leader, u.epoch, u.version, u.isr, v.replicas, v.adding, v.removing, v.min⟩ 4 (.slice u.isr.p u.isr.n u.isr.c) (by decide) rfl,
    step ⟨u.id, u.leader, u.epoch, u.version, u.isr, v.replicas, v.adding, v.removing, v.min⟩ ⟨u.id, u.leader, u.epoch, u.version, u.isr, u.replicas, v.adding, v.removing, v.min⟩ 5 (.slice u.replicas.p u.replicas.n u.replicas.c) (by decide) rfl,
    step ⟨u.id, u.leader, u.epoch, u.version, u.isr, u.replicas, v.adding, v.removing, v.min⟩ ⟨u.id, u.leader, u.epoch, u.version, u.isr, u.replicas, u.adding, v.removing, v.min⟩ 6 (.slice u.adding.p u.adding.n u.adding.c) (by decide) rfl,
    step ⟨u.id, u.leader, u.epoch, u.version, u.isr, u.replicas, u.adding, v.removing, v.min⟩ ⟨u.id, u.leader, u.epoch, u.version, u.isr, u.replicas, u.adding, u.removing, v.min⟩ 7 (.slice u.removing.p u.removing.n u.removing.c) (by decide) rfl,
    step ⟨u.id, u.leader, u.epoch, u.version, u.isr, u.replicas, u.adding, u.removing, v.min⟩ ⟨u.id, u.leader, u.epoch, u.version, u.isr, u.replicas, u.adding, u.removing, u.min⟩ 8 (.int .i64 u.min) (by decide) rfl]
theorem put_part {s : Sl} {vs : List PV} (h : HL.Holds (own 41 9 s (vs.flatMap eP) :: cs) H) {q o : Nat} (hq : s.p = some ⟨q, o, none⟩) {j : Nat} {v : PV} (hv : vs[j]? = some v) (u : PV) {f : Heap → Prop} (k : ∀ H', HL.Holds (own 41 9 s ((vs.set j u).flatMap eP) :: cs) H' → f H') :
    (∃ x, cellH H ⟨q, o + j * 9, none⟩ = some x) ∧ frozenH H ⟨q, o + j * 9, none⟩ = false ∧ letH (H.set ⟨q, o + j * 9, none⟩ (.int .i64 u.id)) fun H1 =>
    (∃ x, cellH H1 ⟨q, o + j * 9 + 1, none⟩ = some x) ∧ frozenH H1 ⟨q, o + j * 9 + 1, none⟩ = false ∧ letH (H1.set ⟨q, o + j * 9 + 1, none⟩ (.int .i64 u.leader)) fun H2 =>
    (∃ x, cellH H2 ⟨q, o + j * 9 + 2, none⟩ = some x) ∧ frozenH H2 ⟨q, o + j * 9 + 2, none⟩ = false ∧ letH (H2.set ⟨q, o + j * 9 + 2, none⟩ (.int .i64 u.epoch)) fun H3 =>
    (∃ x, cellH H3 ⟨q, o + j * 9 + 3, none⟩ = some x) ∧ frozenH H3 ⟨q, o + j * 9 + 3, none⟩ = false ∧ letH (H3.set ⟨q, o + j * 9 + 3, none⟩ (.int .i64 u.version)) fun H4 =>
    (∃ x, cellH H4 ⟨q, o + j * 9 + 4, none⟩ = some x) ∧ frozenH H4 ⟨q, o + j * 9 + 4, none⟩ = false ∧ letH (H4.set ⟨q, o + j * 9 + 4, none⟩ (.slice u.isr.p u.isr.n u.isr.c)) fun H5 =>
    (∃ x, cellH H5 ⟨q, o + j * 9 + 5, none⟩ = some x) ∧ frozenH H5 ⟨q, o + j * 9 + 5, none⟩ = false ∧ letH (H5.set ⟨q, o + j * 9 + 5, none⟩ (.slice u.replicas.p u.replicas.n u.replicas.c)) fun H6 =>
    (∃ x, cellH H6 ⟨q, o + j * 9 + 6, none⟩ = some x) ∧ frozenH H6 ⟨q, o + j * 9 + 6, none⟩ = false ∧ letH (H6.set ⟨q, o + j * 9 + 6, none⟩ (.slice u.adding.p u.adding.n u.adding.c)) fun H7 =>
    (∃ x, cellH H7 ⟨q, o + j * 9 + 7, none⟩ = some x) ∧ frozenH H7 ⟨q, o + j * 9 + 7, none⟩ = false ∧ letH (H7.set ⟨q, o + j * 9 + 7, none⟩ (.slice u.removing.p u.removing.n u.removing.c)) fun H8 =>
    (∃ x, cellH H8 ⟨q, o + j * 9 + 8, none⟩ = some x) ∧ frozenH H8 ⟨q, o + j * 9 + 8, none⟩ = false ∧ letH (H8.set ⟨q, o + j * 9 + 8, none⟩ (.int .i64 u.min)) f := by
  have hj := (List.getElem?_eq_some_iff.1 hv).1
  have hl : (vs.flatMap eP).length = vs.length * 9 := flat_len ePlen vs
  refine Holds.setCell h hq (j := j * 9) (by omega) fun H1 h1 => Holds.setCell h1 hq (j := j * 9 + 1) (by simp only [List.length_set]; omega) fun H2 h2 => Holds.setCell h2 hq (j := j * 9 + 2) (by simp only [List.length_set]; omega) fun H3 h3 => Holds.setCell h3 hq (j := j * 9 + 3) (by simp only [List.length_set]; omega) fun H4 h4 =>
    Holds.setCell h4 hq (j := j * 9 + 4) (by simp only [List.length_set]; omega) fun H5 h5 => Holds.setCell h5 hq (j := j * 9 + 5) (by simp only [List.length_set]; omega) fun H6 h6 => Holds.setCell h6 hq (j := j * 9 + 6) (by simp only [List.length_set]; omega) fun H7 h7 => Holds.setCell h7 hq (j := j * 9 + 7) (by simp only [List.length_set]; omega) fun H8 h8 =>
    Holds.setCell h8 hq (j := j * 9 + 8) (by simp only [List.length_set]; omega) fun H9 h9 => k H9 (by rw [← set9 hv u]; exact h9)
end
end Go.Proofs.YtmofinghoacobaaGreatDoor
namespace Go.Proofs.YtmofinghoacobaaGreatDoor
open Go Go.HL
set_option maxHeartbeats 3200000
set_option maxRecDepth 100000
theorem set_same {α : Type} {l : List α} {n : Nat} {p : α} (h : l[n]? = some p) : l.set n p = l := by
  obtain ⟨h1, h2⟩ := List.getElem?_eq_some_iff.1 h
  rw [← h2]; exact List.set_getElem_self h1
theorem each_at {g : Part → Part} {l : List Part} {n : Nat} {p : Part} (h : l[n]? = some p) : ((l.take n).map g ++ l.drop n)[n]? = some p := by
  have hn := (List.getElem?_eq_some_iff.1 h).1
  have hl : ((l.take n).map g).length = n := by rw [List.length_map, List.length_take]; omega
  rw [List.getElem?_append_right (by omega), hl, Nat.sub_self, List.getElem?_drop, Nat.add_zero, h]
theorem each_step {g : Part → Part} {l : List Part} {n : Nat} {p : Part} (h : l[n]? = some p) : ((l.take n).map g ++ l.drop n).set n (g p) = (l.take (n + 1)).map g ++ l.drop (n + 1) := by
  obtain ⟨hn, h2⟩ := List.getElem?_eq_some_iff.1 h
  have hl : ((l.take n).map g).length = n := by rw [List.length_map, List.length_take]; omega
  rw [List.set_append_right _ _ (by omega), hl, Nat.sub_self, List.drop_eq_getElem_cons hn, List.set_cons_zero, List.take_add_one, h, List.map_append, List.append_assoc]
  rfl
def eachG (f : Part → Part × Int) (p : Part) : Part := if (f p).2 = 0 then (f p).1 else p
section
variable {cs : List Chunk} {H Lo : Heap} {K : Value → Heap → Prop}
theorem fcl_store {A : Heap} {v : PV} {p : Part} {c0 c1 : Nat} {id : Int} {u : Sl} {up : List Int} (h : HL.Holds (ro A :: cs) H) (h0 : cellH H ⟨c0, 0, none⟩ = some (.int .i64 id)) (h1 : cellH H ⟨c1, 0, none⟩ = some (.slice u.p u.n u.c)) (hv : PIn A v p) (hb : Small p) (hup : Ints A u up)
    (k : ∀ (w : PV) A' H', HL.Sub A A' → PIn A' w (fenceP p id up).1 → HL.Holds (ro A' :: cs) H' → K (.tuple #[w.val, .int .i64 (fenceP p id up).2]) H') : FnH Tryz.prog 106 #[v.val, .pointer (some ⟨c0, 0, none⟩), .pointer (some ⟨c1, 0, none⟩)] H K := by
  apply meta_Image_fencing_1_fn
  unfold meta_Image_fencing_1_vc
  refine ⟨_, h0, u, h1, in_store (Q := fun r B' => ∃ w : PV, r = .tuple #[w.val, .int .i64 (fenceP p id up).2] ∧ PIn B' w (fenceP p id up).1) h (fun B K' s kk => fence_spec (hv.sub s) hb (hup.sub s) fun w H' s' hw => kk _ H' s' ⟨w, rfl, hw⟩) fun r A' H' s q h' => ?_⟩
  obtain ⟨w, rfl, hw⟩ := q
  exact ⟨w.id, w.leader, w.epoch, w.version, w.isr, w.replicas, w.adding, w.removing, w.min, _, rfl, k w A' H' s hw h'⟩
theorem bcl_store {A : Heap} {v : PV} {p : Part} {c0 : Nat} {r : Mt} {l8 : Sl} (h : HL.Holds (ro A :: cs) H) (h0 : H c0 = some (.cells #[.int .i64 r.kind, .int .i64 r.a, .int .i64 r.b, .int .i64 r.c, .int .i64 r.d, .string r.name, .string r.text, .slice l8.p l8.n l8.c] 31 (0, 0))) (hv : PIn A v p) (hb : Small p)
    (k : ∀ (w : PV) A' H', HL.Sub A A' → PIn A' w (backP p r.a).1 → HL.Holds (ro A' :: cs) H' → K (.tuple #[w.val, .int .i64 (backP p r.a).2]) H') : FnH Tryz.prog 69 #[v.val, .pointer (some ⟨c0, 0, none⟩)] H K := by
  apply meta_Image_turn_1_fn
  unfold meta_Image_turn_1_vc
  refine ⟨r.a, by rw [cellH_eq h0]; rfl, in_store (Q := fun x B' => ∃ w : PV, x = .tuple #[w.val, .int .i64 (backP p r.a).2] ∧ PIn B' w (backP p r.a).1) h (fun B K' s kk => back_spec (hv.sub s) hb fun w H' s' hw => kk _ H' s' ⟨w, rfl, hw⟩) fun x A' H' s q h' => ?_⟩
  obtain ⟨w, rfl, hw⟩ := q
  exact ⟨w.id, w.leader, w.epoch, w.version, w.isr, w.replicas, w.adding, w.removing, w.min, _, rfl, k w A' H' s hw h'⟩
theorem each_fence {m c0 c1 : Nat} {I : Im} {c : Pc} {id : Int} {u : Sl} {up : List Int} (h : HL.Holds (imgL m I c ++ (blk c0 (.cells #[.int .i64 id] 3 (0, 0)) :: blk c1 (.cells #[.slice u.p u.n u.c] 22 (0, 0)) :: cs)) H) (hP : PsIn Lo c.A c.vs I.prt) (hS : ∀ p ∈ I.prt, Small p) (hu : Ints c.A u up) (hl : I.prt.length ≤ 16)
    (k : ∀ vs A H', HL.Sub c.A A → PsIn Lo A vs (eachP (fun p => fenceP p id up) I.prt) → HL.Holds (imgL m { I with prt := eachP (fun p => fenceP p id up) I.prt } { c with vs := vs, A := A } ++ (blk c0 (.cells #[.int .i64 id] 3 (0, 0)) :: blk c1 (.cells #[.slice u.p u.n u.c] 22 (0, 0)) :: cs)) H' → K (.tuple #[]) H') :
    FnH Tryz.prog 68 #[.pointer (some ⟨m, 0, none⟩), .func (.func 106) #[] #[.pointer (some ⟨c0, 0, none⟩), .pointer (some ⟨c1, 0, none⟩)]] H K := by
  apply each_Fence_fn
  unfold each_Fence_vc
  have hR : ∀ {H' : Heap} {vs : List PV} {ds : List Chunk}, HL.Holds (own 41 9 c.ps (vs.flatMap eP) :: ds) H' → vs.length ≤ 16 → Recs eP H' c.ps vs := fun {H' vs ds} h' hv => Own.recs ePlen (by decide) (h'.own 0 rfl) (by omega)
  have hn : c.ps.n = I.prt.length := by rw [(hR (h.pull 3 rfl) (by rw [hP.1]; exact hl)).len, hP.1]
  refine ⟨c.ps, h.cell 0 rfl rfl, fun n H' => 0 ≤ n ∧ n ≤ c.ps.n ∧ ∃ vs A, HL.Sub c.A A ∧ PsIn Lo A vs ((I.prt.take n.toNat).map (eachG fun p => fenceP p id up) ++ I.prt.drop n.toNat) ∧ HL.Holds (imgL m I { c with vs := vs, A := A } ++ (blk c0 (.cells #[.int .i64 id] 3 (0, 0)) :: blk c1 (.cells #[.slice u.p u.n u.c] 22 (0, 0)) :: cs)) H', fun n _ => (c.ps.n - n).toNat, ⟨Int.le_refl _, by omega, c.vs, c.A, HL.Sub.refl _, by simpa using hP, h⟩, ?_⟩
  rintro n H1 ⟨n0, n1, vs, A, sA, hV, h1⟩
  have hvl : vs.length = I.prt.length := by rw [hV.1, List.length_append, List.length_map, List.length_take, List.length_drop]; omega
  refine br_intro (fun w => ?_) (fun w => ?_)
  · have w := of_decide_eq_true w
    have hi : n.toNat < I.prt.length := by omega
    obtain ⟨q, o, v, e1, e2, e3⟩ := (hR (vs := vs) (h1.pull 3 rfl) (by omega)).at_ ePlen (by decide) n0 w
    obtain ⟨p, hp⟩ : ∃ p, I.prt[n.toNat]? = some p := ⟨_, List.getElem?_eq_getElem hi⟩
    have hvp := hV.2.1 _ _ _ e2 (each_at hp)
    have hn1 : (n + 1).toNat = n.toNat + 1 := by omega
    refine ⟨q, o, e1, n0, w, v.id, e3 0 _ rfl, v.leader, e3 1 _ rfl, v.epoch, e3 2 _ rfl, v.version, e3 3 _ rfl, v.isr, e3 4 _ rfl, v.replicas, e3 5 _ rfl, v.adding, e3 6 _ rfl, v.removing, e3 7 _ rfl, v.min, e3 8 _ rfl, ?_⟩
    refine fcl_store (v := v) (h1.pull 5 rfl) (h1.cell 6 rfl rfl) (h1.cell 7 rfl rfl) hvp (hS p (List.mem_of_getElem? hp)) (hu.sub sA) fun w' A' H2 sA' hw h2 => ⟨w'.id, w'.leader, w'.epoch, w'.version, w'.isr, w'.replicas, w'.adding, w'.removing, w'.min, _, rfl, ?_⟩
    rw [wrap64_id (n := n + 1) (by omega) (by omega)]
    have hV' := hV.sub sA'
    have hst := each_step (g := eachG fun p => fenceP p id up) hp
    refine br_intro (fun z => ?_) (fun z => ?_)
    · have z : (fenceP p id up).2 = 0 := by simpa using z
      have hg : eachG (fun p => fenceP p id up) p = (fenceP p id up).1 := if_pos z
      refine ⟨c.ps, h2.cell 1 rfl rfl, q, o, e1, n0, w, ?_⟩
      refine put_part (h2.pull 4 rfl) e1 e2 w' fun H3 h3 => ⟨rfl, ⟨by omega, by omega, vs.set n.toNat w', A', sA.trans sA', ?_, ?_⟩, by dsimp only; omega⟩
      · rw [hn1, ← hst, hg]
        exact hV'.set hw
      · exact (h3.down 4).down 5
    · have z : ¬ (fenceP p id up).2 = 0 := by simpa using z
      have hg : eachG (fun p => fenceP p id up) p = p := if_neg z
      refine ⟨rfl, ⟨by omega, by omega, vs, A', sA.trans sA', ?_, h2.down 5⟩, by dsimp only; omega⟩
      rw [hg, set_same (each_at hp)] at hst
      rw [hn1, ← hst]; exact hV'
  · have w := of_decide_eq_false w
    rw [List.take_of_length_le (by omega), List.drop_of_length_le (by omega), List.append_nil] at hV
    exact k vs A H1 sA hV h1
theorem each_back {m c0 : Nat} {I : Im} {c : Pc} {r : Mt} {l8 : Sl} (h : HL.Holds (imgL m I c ++ (blk c0 (.cells #[.int .i64 r.kind, .int .i64 r.a, .int .i64 r.b, .int .i64 r.c, .int .i64 r.d, .string r.name, .string r.text, .slice l8.p l8.n l8.c] 31 (0, 0)) :: cs)) H) (hP : PsIn Lo c.A c.vs I.prt) (hS : ∀ p ∈ I.prt, Small p) (hl : I.prt.length ≤ 16)
    (k : ∀ vs A H', HL.Sub c.A A → PsIn Lo A vs (eachP (fun p => backP p r.a) I.prt) → HL.Holds (imgL m { I with prt := eachP (fun p => backP p r.a) I.prt } { c with vs := vs, A := A } ++ (blk c0 (.cells #[.int .i64 r.kind, .int .i64 r.a, .int .i64 r.b, .int .i64 r.c, .int .i64 r.d, .string r.name, .string r.text, .slice l8.p l8.n l8.c] 31 (0, 0)) :: cs)) H' → K (.tuple #[]) H') :
    FnH Tryz.prog 68 #[.pointer (some ⟨m, 0, none⟩), .func (.func 69) #[] #[.pointer (some ⟨c0, 0, none⟩)]] H K := by
  apply each_Back_fn
  unfold each_Back_vc
  have hR : ∀ {H' : Heap} {vs : List PV} {ds : List Chunk}, HL.Holds (own 41 9 c.ps (vs.flatMap eP) :: ds) H' → vs.length ≤ 16 → Recs eP H' c.ps vs := fun {H' vs ds} h' hv => Own.recs ePlen (by decide) (h'.own 0 rfl) (by omega)
  have hn : c.ps.n = I.prt.length := by rw [(hR (h.pull 3 rfl) (by rw [hP.1]; exact hl)).len, hP.1]
  refine ⟨c.ps, h.cell 0 rfl rfl, fun n H' => 0 ≤ n ∧ n ≤ c.ps.n ∧ ∃ vs A, HL.Sub c.A A ∧ PsIn Lo A vs ((I.prt.take n.toNat).map (eachG fun p => backP p r.a) ++ I.prt.drop n.toNat) ∧ HL.Holds (imgL m I { c with vs := vs, A := A } ++ (blk c0 (.cells #[.int .i64 r.kind, .int .i64 r.a, .int .i64 r.b, .int .i64 r.c, .int .i64 r.d, .string r.name, .string r.text, .slice l8.p l8.n l8.c] 31 (0, 0)) :: cs)) H', fun n _ => (c.ps.n - n).toNat, ⟨Int.le_refl _, by omega, c.vs, c.A, HL.Sub.refl _, by simpa using hP, h⟩, ?_⟩
  rintro n H1 ⟨n0, n1, vs, A, sA, hV, h1⟩
  have hvl : vs.length = I.prt.length := by rw [hV.1, List.length_append, List.length_map, List.length_take, List.length_drop]; omega
  refine br_intro (fun w => ?_) (fun w => ?_)
  · have w := of_decide_eq_true w
    have hi : n.toNat < I.prt.length := by omega
    obtain ⟨q, o, v, e1, e2, e3⟩ := (hR (vs := vs) (h1.pull 3 rfl) (by omega)).at_ ePlen (by decide) n0 w
    obtain ⟨p, hp⟩ : ∃ p, I.prt[n.toNat]? = some p := ⟨_, List.getElem?_eq_getElem hi⟩
    have hvp := hV.2.1 _ _ _ e2 (each_at hp)
    have hn1 : (n + 1).toNat = n.toNat + 1 := by omega
    refine ⟨q, o, e1, n0, w, v.id, e3 0 _ rfl, v.leader, e3 1 _ rfl, v.epoch, e3 2 _ rfl, v.version, e3 3 _ rfl, v.isr, e3 4 _ rfl, v.replicas, e3 5 _ rfl, v.adding, e3 6 _ rfl, v.removing, e3 7 _ rfl, v.min, e3 8 _ rfl, ?_⟩
    refine bcl_store (v := v) (h1.pull 5 rfl) (h1.get 6 rfl) hvp (hS p (List.mem_of_getElem? hp)) fun w' A' H2 sA' hw h2 => ⟨w'.id, w'.leader, w'.epoch, w'.version, w'.isr, w'.replicas, w'.adding, w'.removing, w'.min, _, rfl, ?_⟩
    rw [wrap64_id (n := n + 1) (by omega) (by omega)]
    have hV' := hV.sub sA'
    have hst := each_step (g := eachG fun p => backP p r.a) hp
    refine br_intro (fun z => ?_) (fun z => ?_)
    · have z : (backP p r.a).2 = 0 := by simpa using z
      have hg : eachG (fun p => backP p r.a) p = (backP p r.a).1 := if_pos z
      refine ⟨c.ps, h2.cell 1 rfl rfl, q, o, e1, n0, w, ?_⟩
      refine put_part (h2.pull 4 rfl) e1 e2 w' fun H3 h3 => ⟨rfl, ⟨by omega, by omega, vs.set n.toNat w', A', sA.trans sA', ?_, ?_⟩, by dsimp only; omega⟩
      · rw [hn1, ← hst, hg]
        exact hV'.set hw
      · exact (h3.down 4).down 5
    · have z : ¬ (backP p r.a).2 = 0 := by simpa using z
      have hg : eachG (fun p => backP p r.a) p = p := if_neg z
      refine ⟨rfl, ⟨by omega, by omega, vs, A', sA.trans sA', ?_, h2.down 5⟩, by dsimp only; omega⟩
      rw [hg, set_same (each_at hp)] at hst
      rw [hn1, ← hst]; exact hV'
  · have w := of_decide_eq_false w
    rw [List.take_of_length_le (by omega), List.drop_of_length_le (by omega), List.append_nil] at hV
    exact k vs A H1 sA hV h1
end
end Go.Proofs.YtmofinghoacobaaGreatDoor
namespace Go.Proofs.YtmofinghoacobaaGreatDoor
open Go Go.HL
set_option maxHeartbeats 3200000
set_option maxRecDepth 100000
section
variable {cs : List Chunk} {H Lo : Heap} {K : Value → Heap → Prop}
theorem bmap_put {fs : Bs} {k : Int} {v : Int × Bool} : putL (bmap fs) k (brV v) = bmap (putL fs k v) := putL_map (f := brV)
theorem put_brk {m mb : Nat} {I : Im} {c : Pc} {id : Int} {v : Int × Bool} {f : Heap → Prop} (hS : SortedL ltI I.brk) (hp : List.Perm c.fs I.brk) (hP : PsIn Lo c.A c.vs I.prt) (h : HL.Holds (imgL m I c ++ cs) H) (e : c.mb = mb)
    (k : ∀ H', HL.Holds (img Lo m { I with brk := insL ltI I.brk id v } :: cs) H' → f H') : runH Tryz.prog (Instr.mapUpdate 67 (.map (some mb)) (.int .i64 id) (brV v)) H fun _ H' => f H' := by
  subst e
  refine Holds.update (enc := encI) (k := id) h 1 rfl m67 kint fun H' h' => k H' (img_open.2 ⟨{ c with fs := putL c.fs id v }, ⟨put_ins ltI_ok hp hS id v, hP⟩, ?_⟩)
  have h' : HL.Holds (imgL m I { c with fs := putL c.fs id v } ++ cs) H' := by
    rw [bmap_put] at h'
    exact h'
  exact h'
theorem ImOk.ins {I : Im} (h : ImOk I) {id : Int} {v : Int × Bool} (h1 : 1 ≤ id ∧ id ≤ 7) (h2 : 1 ≤ v.1 ∧ v.1 ≤ 1000000000) : ImOk { I with brk := insL ltI I.brk id v } :=
  ⟨insL_sorted ltI_ok h.sorted, fun x hx => by
    rcases insL_keys hx with rfl | hx
    · exact ⟨h1.1, h1.2, h2.1, h2.2⟩
    · exact h.ids x hx, h.right, h.parts, h.tops, h.topv, h.prds, h.prd⟩
theorem ImOk.brk {I : Im} (h : ImOk I) {id : Int} {x : Int × Bool} (e : lookL I.brk id = some x) : 1 ≤ id ∧ id ≤ 7 ∧ 1 ≤ x.1 ∧ x.1 ≤ 1000000000 := h.ids (id, x) ((lookL_iff (nodup_brk h)).1 e)
theorem fencing_spec {m : Nat} {I : Im} {id : Int} {x : Int × Bool} (h : HL.Holds (img Lo m I :: cs) H) (hok : ImOk I) (hx : lookL I.brk id = some x) (k : ∀ H', HL.Holds (img Lo m (fencingI I id) :: cs) H' → K (.tuple #[]) H') : FnH Tryz.prog 67 #[.pointer (some ⟨m, 0, none⟩), .int .i64 id] H K := by
  apply meta_Image_fencing_fn
  unfold meta_Image_fencing_vc
  obtain ⟨b1, b2, b3, b4⟩ := hok.brk hx
  have hbx : brkOf I.brk id = x := by unfold brkOf; rw [hx]; rfl
  refine h.new fun q1 H1 h1 => ?_
  obtain ⟨c, ⟨hp, hP⟩, h2⟩ := img_open.1 h1.swap
  refine ⟨_, h2.cell 0 rfl rfl, _, h2.cell 6 rfl rfl, _, h2.cell 0 rfl rfl, _, h2.cell 6 rfl rfl, look12 hok hp (h2.map 1 rfl) ⟨_, _, rfl, HL.Sub.refl _, ?_⟩⟩
  refine put_brk (v := ((brkOf I.brk id).1, false)) hok.sorted hp hP h2 rfl fun H3 h3 => ?_
  have hok2 : ImOk { I with brk := insL ltI I.brk id ((brkOf I.brk id).1, false) } := hok.ins ⟨b1, b2⟩ (by rw [hbx]; exact ⟨b3, b4⟩)
  refine up_spec (i := 0) h3 rfl hok2 fun s H4 s4 h4 => ⟨s, rfl, ?_⟩
  have h5 := ro_open h3 h4
  refine h5.new fun q2 H5 h6 => h6.store 0 rfl (by simp) fun H6 h7 => ?_
  have h7 : HL.Holds (blk q2 (.cells #[.slice s.p s.n s.c] 22 (0, 0)) :: own 3 1 s (iv (upL (fencingB I id))) :: img Lo m { I with brk := fencingB I id } :: blk q1 (.cells #[.int .i64 id] 3 (0, 0)) :: cs) H6 := h7
  obtain ⟨c2, ⟨hp2, hP2⟩, h8⟩ := img_open.1 (h7.pull 2 rfl)
  have h9 : HL.Holds (own 3 1 s (iv (upL (fencingB I id))) :: ro c2.A :: blk m (.cells #[.int .i64 I.app, .map (some c2.mb), .slice c2.ts.p c2.ts.n c2.ts.c, .slice c2.ps.p c2.ps.n c2.ps.c, .slice c2.rs.p c2.rs.n c2.rs.c] 70 (0, 0)) :: mp c2.mb encI (bmap c2.fs) :: own 74 3 c2.ts (I.top.flatMap eT) :: own 41 9 c2.ps (c2.vs.flatMap eP) :: own 3 1 c2.rs (iv I.prd) :: blk q2 (.cells #[.slice s.p s.n s.c] 22 (0, 0)) :: blk q1 (.cells #[.int .i64 id] 3 (0, 0)) :: cs) H6 := (h8.pull 5 rfl).pull 7 rfl
  obtain ⟨A2, sA, hU, h10⟩ := into_store h9 Own.mono
  have hul := upL_len hok2
  have hup : Ints A2 s (upL (fencingB I id)) := own_ints hU (by have : (upL (fencingB I id)).length ≤ 7 := hul; omega)
  have h11 : HL.Holds (imgL m { I with brk := fencingB I id } { c2 with A := A2 } ++ (blk q1 (.cells #[.int .i64 id] 3 (0, 0)) :: blk q2 (.cells #[.slice s.p s.n s.c] 22 (0, 0)) :: cs)) H6 := ((h10.down 5).pull 7 rfl).down 6
  refine each_fence (I := { I with brk := fencingB I id }) (c := { c2 with A := A2 }) h11 (hP2.sub sA) (fun p hp' => (hok.right p hp').small) hup hok.parts fun vs A' H7 sA' hV h12 => ⟨rfl, k H7 ?_⟩
  have h13 : HL.Holds (img Lo m (fencingI I id) :: blk q1 (.cells #[.int .i64 id] 3 (0, 0)) :: blk q2 (.cells #[.slice s.p s.n s.c] 22 (0, 0)) :: cs) H7 := img_open.2 ⟨{ c2 with vs := vs, A := A' }, ⟨hp2, hV⟩, h12⟩
  exact ((h13.pull 1 rfl).tail.pull 1 rfl).tail
end
end Go.Proofs.YtmofinghoacobaaGreatDoor
namespace Go.Proofs.YtmofinghoacobaaGreatDoor
open Go Go.HL
set_option maxHeartbeats 3200000
set_option maxRecDepth 100000
section
variable {cs : List Chunk} {H Lo : Heap} {K : Value → Heap → Prop}
theorem register_spec {m : Nat} {I : Im} {kd a b c d : Int} {nm tx : ByteArray} {s : Sl} (h : HL.Holds (img Lo m I :: cs) H) (hok : ImOk I) (k : ∀ H', HL.Holds (img Lo m (registerI I a b).1 :: cs) H' → K (.tuple #[.int .i64 (registerI I a b).2.1, .int .i64 (registerI I a b).2.2]) H') :
    FnH Tryz.prog 32 #[.pointer (some ⟨m, 0, none⟩), .agg #[.int .i64 kd, .int .i64 a, .int .i64 b, .int .i64 c, .int .i64 d, .string nm, .string tx, .slice s.p s.n s.c]] H K := by
  apply meta_Image_register_fn
  unfold meta_Image_register_vc
  have bad : (a < 1 ∨ a > 7 ∨ b < 1 ∨ b > 1000000000) → K (.tuple #[.int .i64 0, .int .i64 1]) H := fun e => by
    unfold registerI at k
    rw [if_pos e] at k
    exact k H h
  refine br_intro (fun w => bad (.inl (of_decide_eq_true w))) (fun w1 => br_intro (fun w => bad (.inr (.inl (of_decide_eq_true w)))) (fun w2 => br_intro (fun w => bad (.inr (.inr (.inl (of_decide_eq_true w))))) (fun w3 => br_intro (fun w => bad (.inr (.inr (.inr (of_decide_eq_true w))))) (fun w4 => ?_))))
  have w1 := of_decide_eq_false w1
  have w2 := of_decide_eq_false w2
  have w3 := of_decide_eq_false w3
  have w4 := of_decide_eq_false w4
  clear bad
  unfold registerI at k
  rw [if_neg (by omega)] at k
  obtain ⟨p, ⟨hp, hP⟩, h1⟩ := img_open.1 h
  have put : ∀ {I2 : Im} {H2 : Heap}, regI I a = I2 → SortedL ltI I2.brk → HL.Holds (img Lo m I2 :: cs) H2 → ¬ b ≤ (brkOf I.brk a).1 → ∃ m2 : Option Nat, cellH H2 ⟨m, 0 + 1, none⟩ = some (.map m2) ∧ runH Tryz.prog (Instr.mapUpdate 67 (.map m2) (.int .i64 a) (.agg #[.int .i64 b, .bool false])) H2 fun _ H3 => K (.tuple #[.int .i64 a, .int .i64 0]) H3 := fun {I2 H2} e hS h2 hb => by
    obtain ⟨p2, ⟨hp2, hP2⟩, h3⟩ := img_open.1 h2
    subst e
    rw [if_neg hb] at k
    exact ⟨_, h3.cell 0 rfl rfl, put_brk (v := (b, false)) hS hp2 hP2 h3 rfl k⟩
  have T : ¬ b ≤ (brkOf I.brk a).1 → br (brkOf I.brk a).2 (FnH Tryz.prog 67 #[.pointer (some ⟨m, 0, none⟩), .int .i64 a] H fun r2 H2 => r2 = .tuple #[] ∧ ∃ m2 : Option Nat, cellH H2 ⟨m, 0 + 1, none⟩ = some (.map m2) ∧ runH Tryz.prog (Instr.mapUpdate 67 (.map m2) (.int .i64 a) (.agg #[.int .i64 b, .bool false])) H2 fun _ H3 => K (.tuple #[.int .i64 a, .int .i64 0]) H3)
      (∃ m2 : Option Nat, cellH H ⟨m, 0 + 1, none⟩ = some (.map m2) ∧ runH Tryz.prog (Instr.mapUpdate 67 (.map m2) (.int .i64 a) (.agg #[.int .i64 b, .bool false])) H fun _ H3 => K (.tuple #[.int .i64 a, .int .i64 0]) H3) := fun hb => by
    refine br_intro (fun y => ?_) (fun y => ?_)
    · have hx : ∃ x, lookL I.brk a = some x := by
        cases e : lookL I.brk a with
        | some x => exact ⟨x, rfl⟩
        | none => unfold brkOf at y; rw [e] at y; cases y
      obtain ⟨x, hx⟩ := hx
      refine fencing_spec h hok hx fun H2 h2 => ⟨rfl, put (I2 := fencingI I a) (by unfold regI; rw [if_pos y]) (insL_sorted ltI_ok hok.sorted) h2 hb⟩
    · exact put (I2 := I) (by unfold regI; rw [if_neg (by rw [y]; decide)]) hok.sorted h hb
  have B : br (lookL I.brk a).isSome (br (decide (b ≤ (brkOf I.brk a).1)) (K (.tuple #[.int .i64 0, .int .i64 13]) H) (br (brkOf I.brk a).2 (FnH Tryz.prog 67 #[.pointer (some ⟨m, 0, none⟩), .int .i64 a] H fun r2 H2 => r2 = .tuple #[] ∧ ∃ m2 : Option Nat, cellH H2 ⟨m, 0 + 1, none⟩ = some (.map m2) ∧ runH Tryz.prog (Instr.mapUpdate 67 (.map m2) (.int .i64 a) (.agg #[.int .i64 b, .bool false])) H2 fun _ H3 => K (.tuple #[.int .i64 a, .int .i64 0]) H3)
      (∃ m2 : Option Nat, cellH H ⟨m, 0 + 1, none⟩ = some (.map m2) ∧ runH Tryz.prog (Instr.mapUpdate 67 (.map m2) (.int .i64 a) (.agg #[.int .i64 b, .bool false])) H fun _ H3 => K (.tuple #[.int .i64 a, .int .i64 0]) H3))) (br (brkOf I.brk a).2 (FnH Tryz.prog 67 #[.pointer (some ⟨m, 0, none⟩), .int .i64 a] H fun r2 H2 => r2 = .tuple #[] ∧ ∃ m2 : Option Nat, cellH H2 ⟨m, 0 + 1, none⟩ = some (.map m2) ∧ runH Tryz.prog (Instr.mapUpdate 67 (.map m2) (.int .i64 a) (.agg #[.int .i64 b, .bool false])) H2 fun _ H3 => K (.tuple #[.int .i64 a, .int .i64 0]) H3)
      (∃ m2 : Option Nat, cellH H ⟨m, 0 + 1, none⟩ = some (.map m2) ∧ runH Tryz.prog (Instr.mapUpdate 67 (.map m2) (.int .i64 a) (.agg #[.int .i64 b, .bool false])) H fun _ H3 => K (.tuple #[.int .i64 a, .int .i64 0]) H3)) := by
    refine br_intro (fun _ => br_intro (fun y => ?_) (fun y => T (of_decide_eq_false y))) (fun y => T ?_)
    · rw [if_pos (of_decide_eq_true y)] at k
      exact k H h
    · have e : lookL I.brk a = none := by
        cases e : lookL I.brk a with
        | none => rfl
        | some x => rw [e] at y; cases y
      unfold brkOf
      rw [e]
      show ¬ b ≤ 0
      omega
  exact ⟨_, h1.cell 0 rfl rfl, look12b hok hp (h1.map 1 rfl) ⟨_, _, _, rfl, HL.Sub.refl _, HL.Sub.refl _, B⟩, HL.Sub.refl _, look12b hok hp (h1.map 1 rfl) ⟨_, _, _, rfl, HL.Sub.refl _, B⟩⟩
end
end Go.Proofs.YtmofinghoacobaaGreatDoor
namespace Go.Proofs.YtmofinghoacobaaGreatDoor
open Go Go.HL
set_option maxHeartbeats 3200000
set_option maxRecDepth 100000
theorem okInt : ElemOK Tryz.prog 22 3 1 := ElemOK.of (by kernel_rfl)
section
variable {cs : List Chunk} {H Lo : Heap} {K : Value → Heap → Prop}
theorem pid_spec {m : Nat} {I : Im} {kd a b c d : Int} {nm tx : ByteArray} {s : Sl} (h : HL.Holds (img Lo m I :: cs) H) (hok : ImOk I) (k : ∀ H', HL.Holds (img Lo m (pidI I a).1 :: cs) H' → K (.tuple #[.int .i64 (pidI I a).2.1, .int .i64 (pidI I a).2.2]) H') :
    FnH Tryz.prog 36 #[.pointer (some ⟨m, 0, none⟩), .agg #[.int .i64 kd, .int .i64 a, .int .i64 b, .int .i64 c, .int .i64 d, .string nm, .string tx, .slice s.p s.n s.c]] H K := by
  apply meta_Image_pid_fn
  unfold meta_Image_pid_vc
  obtain ⟨p, ⟨hp, hP⟩, h1⟩ := img_open.1 h
  have hpl := hok.prds
  have hI : Ints H p.rs I.prd := own_ints (h1.own 4 rfl) (by omega)
  have hn := hI.len
  unfold pidI at k
  refine ⟨p.rs, h1.cell 0 rfl rfl, br_intro (fun w => ?_) (fun w => br_intro (fun w2 => ?_) (fun w2 => ?_))⟩
  · rw [if_pos (of_decide_eq_true w)] at k
    exact k H h
  · rw [if_neg (of_decide_eq_false w), if_pos (by have := of_decide_eq_true w2; omega)] at k
    exact k H h
  have w := of_decide_eq_false w
  have w2 := of_decide_eq_false w2
  rw [if_neg w, if_neg (by omega)] at k
  refine ⟨fun t H' => H' = H ∧ (t = true ↔ a = 0 ∧ I.prd.length ≥ 1000), br_intro (fun x => ⟨rfl, rfl, ?_⟩) (fun x => ⟨rfl, rfl, ?_⟩), ?_⟩
  · have x : a = 0 := by simpa using x
    rw [decide_eq_true_iff]
    omega
  · have x : ¬ a = 0 := by simpa using x
    exact ⟨fun z => absurd z (by decide), fun z => absurd z.1 x⟩
  rintro t H1 ⟨rfl, ht⟩
  refine br_intro (fun y => ?_) (fun y => ?_)
  · obtain ⟨y1, y2⟩ := ht.1 y
    rw [if_pos y1, if_pos y2] at k
    exact k H1 h
  refine br_intro (fun x => ?_) (fun x => ?_)
  · have x : a = 0 := by simpa using x
    have y2 : ¬ I.prd.length ≥ 1000 := fun z => by rw [ht.2 ⟨x, z⟩] at y; cases y
    rw [if_pos x, if_neg y2] at k
    refine ⟨p.rs, h1.cell 0 rfl rfl, ?_⟩
    have h2 : HL.Holds (own 3 1 p.rs (iv I.prd) :: blk m (.cells #[.int .i64 I.app, .map (some p.mb), .slice p.ts.p p.ts.n p.ts.c, .slice p.ps.p p.ps.n p.ps.c, .slice p.rs.p p.rs.n p.rs.c] 70 (0, 0)) :: mp p.mb encI (bmap p.fs) :: own 74 3 p.ts (I.top.flatMap eT) :: own 41 9 p.ps (p.vs.flatMap eP) :: ro p.A :: cs) H1 := h1.pull 4 rfl
    refine Holds.push okInt h2 (xs := [.int .i64 0]) (m := 1) rfl rfl (by omega) fun r H3 h3 n3 => ⟨r, rfl, ?_⟩
    refine h3.store 1 rfl (by simp) fun H4 h4 => ?_
    rw [wrap64_id (by omega) (by omega)]
    have e : ((p.rs.n : Nat) : Int) + 1 = (I.prd.length : Int) + 1 := by omega
    rw [e]
    refine k H4 (img_open.2 ⟨{ p with rs := r }, ⟨hp, hP⟩, ?_⟩)
    have h4 : HL.Holds (own 3 1 r (iv I.prd ++ [.int .i64 0]) :: blk m (.cells #[.int .i64 I.app, .map (some p.mb), .slice p.ts.p p.ts.n p.ts.c, .slice p.ps.p p.ps.n p.ps.c, .slice r.p r.n r.c] 70 (0, 0)) :: mp p.mb encI (bmap p.fs) :: own 74 3 p.ts (I.top.flatMap eT) :: own 41 9 p.ps (p.vs.flatMap eP) :: ro p.A :: cs) H4 := h4
    have e2 : iv I.prd ++ [.int .i64 0] = iv (I.prd ++ [0]) := by simp [iv]
    rw [e2] at h4
    exact h4.down 4
  · have x : ¬ a = 0 := by simpa using x
    rw [if_neg x] at k
    rw [wrap64_id (n := a - 1) (by omega) (by omega)]
    obtain ⟨q, o, g1, g2, g3, g4⟩ := hI.at_ (j := a - 1) (by omega) (by omega)
    have hmem : I.prd.getD (a - 1).toNat 0 ∈ I.prd := getD_mem (by omega) (by omega)
    have hpr := hok.prd _ hmem
    refine ⟨p.rs, h1.cell 0 rfl rfl, q, o, g1, g2, g3, _, g4, br_intro (fun z => ?_) (fun z => ?_)⟩
    · rw [if_pos (of_decide_eq_true z)] at k
      exact k H1 h
    have z := of_decide_eq_false z
    rw [if_neg z] at k
    refine ⟨p.rs, h1.cell 0 rfl rfl, q, o, g1, g2, g3, _, g4, q, o, g1, g2, g3, ?_⟩
    rw [wrap64_id (n := I.prd.getD (a - 1).toNat 0 + 1) (by omega) (by omega)]
    have h2 : HL.Holds (own 3 1 p.rs (iv I.prd) :: blk m (.cells #[.int .i64 I.app, .map (some p.mb), .slice p.ts.p p.ts.n p.ts.c, .slice p.ps.p p.ps.n p.ps.c, .slice p.rs.p p.rs.n p.rs.c] 70 (0, 0)) :: mp p.mb encI (bmap p.fs) :: own 74 3 p.ts (I.top.flatMap eT) :: own 41 9 p.ps (p.vs.flatMap eP) :: ro p.A :: cs) H1 := h1.pull 4 rfl
    refine Holds.setCell h2 g1 (j := (a - 1).toNat) (by rw [List.length_map]; omega) fun H5 h5 => ?_
    rw [iv_set] at h5
    have hI5 : Ints H5 p.rs (I.prd.set (a - 1).toNat (I.prd.getD (a - 1).toNat 0 + 1)) := own_ints (h5.own 0 rfl) (by rw [List.length_set]; omega)
    obtain ⟨q2, o2, f1, f2, f3, f4⟩ := hI5.at_ (j := a - 1) (by omega) (by omega)
    have hgd : (I.prd.set (a - 1).toNat (I.prd.getD (a - 1).toNat 0 + 1)).getD (a - 1).toNat 0 = I.prd.getD (a - 1).toNat 0 + 1 := by
      rw [List.getD, List.getElem?_set_self (by omega)]; rfl
    rw [hgd] at f4
    exact ⟨p.rs, h5.cell 1 rfl rfl, q2, o2, f1, f2, f3, _, f4, k H5 (img_open.2 ⟨p, ⟨hp, hP⟩, h5.down 4⟩)⟩
end
end Go.Proofs.YtmofinghoacobaaGreatDoor
namespace Go.Proofs.YtmofinghoacobaaGreatDoor
open Go Go.HL
set_option maxHeartbeats 3200000
set_option maxRecDepth 100000
section
variable {cs : List Chunk} {H Lo : Heap} {K : Value → Heap → Prop}
theorem turn_spec {m : Nat} {I : Im} {r : Mt} {s : Sl} (h : HL.Holds (img Lo m I :: cs) H) (hok : ImOk I) (k : ∀ H', HL.Holds (img Lo m (turnI I r.a r.b (decide (r.kind = 3))).1 :: cs) H' → K (.tuple #[.int .i64 (turnI I r.a r.b (decide (r.kind = 3))).2.1, .int .i64 (turnI I r.a r.b (decide (r.kind = 3))).2.2]) H') :
    FnH Tryz.prog 33 #[.pointer (some ⟨m, 0, none⟩), .agg #[.int .i64 r.kind, .int .i64 r.a, .int .i64 r.b, .int .i64 r.c, .int .i64 r.d, .string r.name, .string r.text, .slice s.p s.n s.c]] H K := by
  apply meta_Image_turn_fn
  unfold meta_Image_turn_vc
  refine h.new fun q1 H1 h1 => ?_
  obtain ⟨p, ⟨hp, hP⟩, h2⟩ := img_open.1 h1.swap
  have h3 := h1.swap
  unfold turnI at k
  refine ⟨_, h2.cell 0 rfl rfl, _, h2.cell 6 rfl rfl, look12b hok hp (h2.map 1 rfl) ⟨_, _, _, rfl, HL.Sub.refl _, HL.Sub.refl _, ?_⟩, HL.Sub.refl _, look12b hok hp (h2.map 1 rfl) ⟨_, _, _, rfl, HL.Sub.refl _, ?_⟩⟩
  all_goals
    refine ⟨_, h2.cell 6 rfl rfl, fun t H' => H' = H1 ∧ (t = true ↔ r.a < 1 ∨ r.a > 7), ⟨_, h2.cell 6 rfl rfl, br_intro (fun w => ⟨rfl, rfl, ?_⟩) (fun w => ⟨_, h2.cell 6 rfl rfl, rfl, rfl, ?_⟩)⟩, ?_⟩
    · exact ⟨fun _ => .inl (of_decide_eq_true w), fun _ => rfl⟩
    · have w := of_decide_eq_false w
      rw [decide_eq_true_iff]
      omega
    rintro t H1 ⟨rfl, ht⟩
    refine br_intro (fun y => ?_) (fun y => br_intro (fun w => ?_) (fun w => ?_))
    · rw [if_pos (ht.1 y)] at k
      exact k H1 h1.tail
    · have hn : ¬ (r.a < 1 ∨ r.a > 7) := fun z => by rw [ht.2 z] at y; cases y
      have e : lookL I.brk r.a = none := by
        cases e : lookL I.brk r.a with
        | none => rfl
        | some x => rw [e] at w; cases w
      rw [if_neg hn, if_pos e] at k
      exact k H1 h1.tail
    have hn : ¬ (r.a < 1 ∨ r.a > 7) := fun z => by rw [ht.2 z] at y; cases y
    obtain ⟨x, hx⟩ : ∃ x, lookL I.brk r.a = some x := by
      cases e : lookL I.brk r.a with
      | none => rw [e] at w; cases w
      | some x => exact ⟨x, rfl⟩
    have hbx : brkOf I.brk r.a = x := by unfold brkOf; rw [hx]; rfl
    obtain ⟨b1, b2, b3, b4⟩ := hok.brk hx
    rw [if_neg hn, if_neg (by rw [hx]; simp), hbx] at k
    rw [hbx]
    refine ⟨_, h2.cell 6 rfl rfl, br_intro (fun z => ?_) (fun z => br_intro (fun z2 => ?_) (fun z2 => ?_))⟩
    · have z : x.1 ≠ r.b := by simpa using z
      rw [if_pos z] at k
      exact k H1 h1.tail
    · have z : ¬ x.1 ≠ r.b := by simpa using z
      have e : ((r.kind : Int) == 3) = decide (r.kind = 3) := by rw [Bool.eq_iff_iff]; simp
      have z2 : x.2 = decide (r.kind = 3) := by rw [e] at z2; simpa using z2
      rw [if_neg z, if_pos z2] at k
      exact k H1 h1.tail
    have z : ¬ x.1 ≠ r.b := by simpa using z
    have e : ((r.kind : Int) == 3) = decide (r.kind = 3) := by rw [Bool.eq_iff_iff]; simp
    have z2 : ¬ x.2 = decide (r.kind = 3) := by rw [e] at z2; simpa using z2
    rw [if_neg z, if_neg z2] at k
    rw [e]
    refine br_intro (fun u => ?_) (fun u => ?_)
    · have u : decide (r.kind = 3) = false := by simpa using u
      rw [if_pos u] at k
      exact ⟨_, h2.cell 6 rfl rfl, fencing_spec h3 hok hx fun H2 g2 => ⟨rfl, _, g2.cell 1 rfl rfl, k H2 (g2.pull 1 rfl).tail⟩⟩
    · have u : ¬ decide (r.kind = 3) = false := by simpa using u
      rw [if_neg u] at k
      refine ⟨_, h2.cell 0 rfl rfl, _, h2.cell 6 rfl rfl, put_brk (v := (x.1, true)) hok.sorted hp hP h2 rfl fun H2 g2 => ?_⟩
      obtain ⟨p2, ⟨hp2, hP2⟩, g3⟩ := img_open.1 g2
      refine each_back (r := r) (l8 := s) (I := { I with brk := insL ltI I.brk r.a (x.1, true) }) g3 hP2 (fun q hq => (hok.right q hq).small) hok.parts fun vs A' H3 sA hV g4 => ⟨rfl, _, g4.cell 6 rfl rfl, k H3 ?_⟩
      have g5 : HL.Holds (img Lo m { I with brk := insL ltI I.brk r.a (x.1, true), prt := eachP (fun p => backP p r.a) I.prt } :: blk q1 (.cells #[.int .i64 r.kind, .int .i64 r.a, .int .i64 r.b, .int .i64 r.c, .int .i64 r.d, .string r.name, .string r.text, .slice s.p s.n s.c] 31 (0, 0)) :: cs) H3 := img_open.2 ⟨{ p2 with vs := vs, A := A' }, ⟨hp2, hV⟩, g4⟩
      exact (g5.pull 1 rfl).tail
end
end Go.Proofs.YtmofinghoacobaaGreatDoor
namespace Go.Proofs.YtmofinghoacobaaGreatDoor
open Go Go.HL
set_option maxHeartbeats 3200000
set_option maxRecDepth 100000
abbrev idsOf (t : Tp) (n : Nat) : List Int := (List.range n).map fun i : Nat => t.2.1 + (i : Int)
section
variable {cs : List Chunk} {H Lo : Heap} {K : Value → Heap → Prop}
theorem applied_spec {m i : Nat} {I : Im} (h : HL.Holds cs H) (ei : cs[i]? = some (img Lo m I)) (k : K (.int .i64 I.app) H) : FnH Tryz.prog 22 #[.pointer (some ⟨m, 0, none⟩)] H K := by
  apply meta_Image_Applied_fn
  unfold meta_Image_Applied_vc
  obtain ⟨c, -, hh⟩ := h.read i ei img_mono
  exact ⟨_, hh.cell 0 rfl rfl, k⟩
theorem find_spec {m i : Nat} {I : Im} {name : ByteArray} (h : HL.Holds cs H) (ei : cs[i]? = some (img Lo m I)) (hok : ImOk I) (k0 : (∀ t ∈ I.top, t.1 ≠ name) → K (.slice none 0 0) H)
    (k : ∀ (j : Nat) (t : Tp), I.top[j]? = some t → t.1 = name → (∀ x ∈ I.top.take j, x.1 ≠ name) → ∀ (s : Sl) H', HL.Sub H H' → HL.Holds [own 3 1 s (iv (idsOf t t.2.2.toNat)), ro H] H' → K (.slice s.p s.n s.c) H') : FnH Tryz.prog 16 #[.pointer (some ⟨m, 0, none⟩), .string name] H K := by
  apply meta_Image_Find_fn
  unfold meta_Image_Find_vc
  obtain ⟨c, -, hh⟩ := h.read i ei img_mono
  have hR : Recs eT H c.ts I.top := Own.recs eTlen (by decide) (hh.own 2 rfl) (by have := hok.tops; omega)
  have hn := hR.len
  refine ⟨c.ts, hh.cell 0 rfl rfl, fun n H' => H' = H ∧ 0 ≤ n ∧ n ≤ c.ts.n ∧ ∀ t ∈ I.top.take n.toNat, t.1 ≠ name, fun n _ => (c.ts.n - n).toNat, ⟨rfl, Int.le_refl _, by omega, by simp⟩, ?_⟩
  rintro n H1 ⟨rfl, n0, n1, hx⟩
  have htl := hok.tops
  refine br_intro (fun w => ?_) (fun w => ?_)
  · have w := of_decide_eq_true w
    obtain ⟨q, o, t, e1, e2, e3⟩ := hR.at_ eTlen (by decide) n0 w
    obtain ⟨-, t1, t2, t3, t4⟩ := hok.topv t (List.mem_of_getElem? e2)
    refine ⟨q, o, e1, n0, w, _, e3 0 _ rfl, t.2.1, e3 1 _ rfl, t.2.2, e3 2 _ rfl, ?_⟩
    rw [str_eq]
    refine br_intro (fun z => ?_) (fun z => ?_)
    · have z : t.1 = name := of_decide_eq_true z
      refine ⟨fun l j H' => 0 ≤ j ∧ j ≤ t.2.2 ∧ HL.Holds [own 3 1 l (iv (idsOf t j.toNat)), ro H1] H', fun _ j _ => (t.2.2 - j).toNat, ⟨Int.le_refl _, by omega, (Holds.whole H1).own_nil 3 1⟩, ?_⟩
      rintro l j H2 ⟨j0, j1, h2⟩
      have hln : l.n = j.toNat := by
        have := (own_ints (h2.own 0 rfl) (by rw [List.length_map, List.length_range]; omega)).len
        rw [List.length_map, List.length_range] at this; exact this
      refine br_intro (fun y => ?_) (fun y => ?_)
      · have y := of_decide_eq_true y
        rw [wrap64_id (n := t.2.1 + j) (by omega) (by omega), wrap64_id (n := j + 1) (by omega) (by omega)]
        refine Holds.push okInt h2 (xs := [.int .i64 (t.2.1 + j)]) (m := 1) rfl rfl (by omega) fun r H3 h3 n3 => ⟨r, rfl, rfl, ⟨by omega, by omega, ?_⟩, by dsimp only; omega⟩
        have e : iv (idsOf t j.toNat) ++ [.int .i64 (t.2.1 + j)] = iv (idsOf t (j + 1).toNat) := by
          have hj : (j + 1).toNat = j.toNat + 1 := by omega
          have hc : ((j.toNat : Nat) : Int) = j := by omega
          rw [hj]
          simp [iv, idsOf, List.range_succ, hc]
        rw [← e]; exact h3
      · have y := of_decide_eq_false y
        have e : j.toNat = t.2.2.toNat := by omega
        rw [e] at h2
        exact k n.toNat t e2 z hx l H2 (h2.sub 1 rfl) h2
    · have z : ¬ t.1 = name := of_decide_eq_false z
      rw [wrap64_id (n := n + 1) (by omega) (by omega)]
      refine ⟨rfl, ⟨rfl, by omega, by omega, fun x hx2 => ?_⟩, by dsimp only; omega⟩
      rw [take_step n0 e2] at hx2
      rcases List.mem_append.1 hx2 with y | y
      · exact hx x y
      · simp only [List.mem_singleton] at y; rw [y]; exact z
  · have w := of_decide_eq_false w
    rw [List.take_of_length_le (by omega)] at hx
    exact k0 hx
end
end Go.Proofs.YtmofinghoacobaaGreatDoor
namespace Go.Proofs.YtmofinghoacobaaGreatDoor
open Go Go.HL
set_option maxHeartbeats 3200000
set_option maxRecDepth 100000
theorem sub_join {A B R : Heap} (s : HL.Sub A B) (hd : B.disj R) : HL.Sub (A.join R) (B.join R) := fun b o h => by
  cases ha : A b with
  | some x =>
    have e : (A.join R) b = some x := Heap.join_left ha
    rw [e] at h
    cases h
    exact Heap.join_left (s _ _ ha)
  | none =>
    have h : R b = some o := by simpa [Heap.join, ha] using h
    exact HL.Sub.right hd _ _ h
section
variable {cs : List Chunk} {H Lo : Heap} {K : Value → Heap → Prop}
theorem in_storeS {P : Program} {f : FuncId} {args : Array Value} {A : Heap} {Q : Value → Heap → Prop} (h : HL.Holds (ro A :: cs) H) (hs : ∀ (B : Heap) (K' : Value → Heap → Prop), HL.Sub A B → (∀ r B', HL.Sub B B' → Q r B' → K' r B') → FnH P f args B K')
    (k : ∀ r A' H', HL.Sub A A' → Q r A' → HL.Sub H H' → HL.Holds (ro A' :: cs) H' → K r H') : FnH P f args H K := by
  obtain ⟨A0, R, e, d, sA, hR⟩ := h
  have sA : HL.Sub A A0 := sA
  refine FnH.beside e d (hs A0 _ sA fun r B' s q hd => k r B' _ (sA.trans s) q ?_ ⟨B', R, rfl, hd, HL.Sub.refl _, hR⟩)
  rw [e]
  exact sub_join s hd
abbrev imgC (m : Nat) (I : Im) (c : Pc) : List Chunk := [blk m (.cells #[.int .i64 I.app, .map (some c.mb), .slice c.ts.p c.ts.n c.ts.c, .slice c.ps.p c.ps.n c.ps.c, .slice c.rs.p c.rs.n c.rs.c] 70 (0, 0)), mp c.mb encI (bmap c.fs), own 74 3 c.ts (I.top.flatMap eT), own 41 9 c.ps (c.vs.flatMap eP), own 3 1 c.rs (iv I.prd)]
theorem part_tail {m : Nat} {I : Im} {c : Pc} {i : Int} {a : Part × Int} {w : PV} {A' : Heap} (h : HL.Holds (ro A' :: (imgC m I c ++ cs)) H) (hp : List.Perm c.fs I.brk) (hP : PsIn Lo c.A c.vs I.prt) (sA : HL.Sub c.A A') (hi : 1 ≤ i ∧ i ≤ I.prt.length) (hl : I.prt.length ≤ 16) (hw : PIn A' w a.1)
    (k : ∀ H', HL.Holds (img Lo m (if a.2 = 0 then { I with prt := I.prt.set (i - 1).toNat a.1 } else I) :: cs) H' → K (.tuple #[.int .i64 (if a.2 = 0 then a.1.version else 0), .int .i64 a.2]) H') :
    br (a.2 != 0) (K (.tuple #[.int .i64 0, .int .i64 a.2]) H) (∃ l12 : Sl, cellH H ⟨m, 0 + 3, none⟩ = some (.slice l12.p l12.n l12.c) ∧ ∃ q2 : Nat, ∃ o2 : Nat, (l12.p : Option Addr) = some ⟨q2, o2, none⟩ ∧ 0 ≤ ((i - 1 : Int)) ∧ ((i - 1 : Int)) < (l12.n : Nat) ∧
      (∃ x, cellH H ⟨q2, o2 + Int.toNat (i - 1) * 9, none⟩ = some x) ∧ frozenH H ⟨q2, o2 + Int.toNat (i - 1) * 9, none⟩ = false ∧ letH (Heap.set H ⟨q2, o2 + Int.toNat (i - 1) * 9, none⟩ (.int .i64 w.id)) fun H1 =>
      (∃ x, cellH H1 ⟨q2, o2 + Int.toNat (i - 1) * 9 + 1, none⟩ = some x) ∧ frozenH H1 ⟨q2, o2 + Int.toNat (i - 1) * 9 + 1, none⟩ = false ∧ letH (Heap.set H1 ⟨q2, o2 + Int.toNat (i - 1) * 9 + 1, none⟩ (.int .i64 w.leader)) fun H2 =>
      (∃ x, cellH H2 ⟨q2, o2 + Int.toNat (i - 1) * 9 + 2, none⟩ = some x) ∧ frozenH H2 ⟨q2, o2 + Int.toNat (i - 1) * 9 + 2, none⟩ = false ∧ letH (Heap.set H2 ⟨q2, o2 + Int.toNat (i - 1) * 9 + 2, none⟩ (.int .i64 w.epoch)) fun H3 =>
      (∃ x, cellH H3 ⟨q2, o2 + Int.toNat (i - 1) * 9 + 3, none⟩ = some x) ∧ frozenH H3 ⟨q2, o2 + Int.toNat (i - 1) * 9 + 3, none⟩ = false ∧ letH (Heap.set H3 ⟨q2, o2 + Int.toNat (i - 1) * 9 + 3, none⟩ (.int .i64 w.version)) fun H4 =>
      (∃ x, cellH H4 ⟨q2, o2 + Int.toNat (i - 1) * 9 + 4, none⟩ = some x) ∧ frozenH H4 ⟨q2, o2 + Int.toNat (i - 1) * 9 + 4, none⟩ = false ∧ letH (Heap.set H4 ⟨q2, o2 + Int.toNat (i - 1) * 9 + 4, none⟩ (.slice w.isr.p w.isr.n w.isr.c)) fun H5 =>
      (∃ x, cellH H5 ⟨q2, o2 + Int.toNat (i - 1) * 9 + 5, none⟩ = some x) ∧ frozenH H5 ⟨q2, o2 + Int.toNat (i - 1) * 9 + 5, none⟩ = false ∧ letH (Heap.set H5 ⟨q2, o2 + Int.toNat (i - 1) * 9 + 5, none⟩ (.slice w.replicas.p w.replicas.n w.replicas.c)) fun H6 =>
      (∃ x, cellH H6 ⟨q2, o2 + Int.toNat (i - 1) * 9 + 6, none⟩ = some x) ∧ frozenH H6 ⟨q2, o2 + Int.toNat (i - 1) * 9 + 6, none⟩ = false ∧ letH (Heap.set H6 ⟨q2, o2 + Int.toNat (i - 1) * 9 + 6, none⟩ (.slice w.adding.p w.adding.n w.adding.c)) fun H7 =>
      (∃ x, cellH H7 ⟨q2, o2 + Int.toNat (i - 1) * 9 + 7, none⟩ = some x) ∧ frozenH H7 ⟨q2, o2 + Int.toNat (i - 1) * 9 + 7, none⟩ = false ∧ letH (Heap.set H7 ⟨q2, o2 + Int.toNat (i - 1) * 9 + 7, none⟩ (.slice w.removing.p w.removing.n w.removing.c)) fun H8 =>
      (∃ x, cellH H8 ⟨q2, o2 + Int.toNat (i - 1) * 9 + 8, none⟩ = some x) ∧ frozenH H8 ⟨q2, o2 + Int.toNat (i - 1) * 9 + 8, none⟩ = false ∧ letH (Heap.set H8 ⟨q2, o2 + Int.toNat (i - 1) * 9 + 8, none⟩ (.int .i64 w.min)) fun H9 =>
      K (.tuple #[.int .i64 w.version, .int .i64 0]) H9) := by
  have hvl : c.vs.length = I.prt.length := hP.1
  have hback : ∀ {J : Im} {d : Pc} {H2 : Heap}, d.A = A' → HL.Holds (ro A' :: (imgC m J d ++ cs)) H2 → HL.Holds (imgL m J d ++ cs) H2 := fun {J d H2} e h2 => by
    subst e
    exact h2.down 5
  refine br_intro (fun z => ?_) (fun z => ?_)
  · have z : ¬ a.2 = 0 := by simpa using z
    rw [if_neg z, if_neg z] at k
    exact k H (img_open.2 ⟨{ c with A := A' }, ⟨hp, hP.sub sA⟩, hback rfl h⟩)
  · have z : a.2 = 0 := by simpa using z
    rw [if_pos z, if_pos z, z] at k
    have hR : Recs eP H c.ps c.vs := Own.recs ePlen (by decide) (h.own 4 rfl) (by omega)
    have hn := hR.len
    obtain ⟨q, o, v, e1, e2, e3⟩ := hR.at_ ePlen (by decide) (j := i - 1) (by omega) (by omega)
    refine ⟨c.ps, h.cell 1 rfl rfl, q, o, e1, by omega, by omega, ?_⟩
    refine put_part (h.pull 4 rfl) e1 e2 w fun H3 h3 => ?_
    rw [hw.version]
    exact k H3 (img_open.2 ⟨{ c with vs := c.vs.set (i - 1).toNat w, A := A' }, ⟨hp, (hP.sub sA).set hw⟩, hback (d := { c with vs := c.vs.set (i - 1).toNat w, A := A' }) rfl (h3.down 4)⟩)
theorem part_spec {m : Nat} {I : Im} {r : Mt} {s : Sl} (h : HL.Holds (img Lo m I :: cs) H) (hok : ImOk I) (hl : Ints Lo s r.list) (hk : r.kind = 5 ∨ r.kind = 6 ∨ r.kind = 7 ∨ r.kind = 9 ∨ r.kind = 10) (k : ∀ H', HL.Holds (img Lo m (partI I r).1 :: cs) H' → K (.tuple #[.int .i64 (partI I r).2.1, .int .i64 (partI I r).2.2]) H') :
    FnH Tryz.prog 35 #[.pointer (some ⟨m, 0, none⟩), .agg #[.int .i64 r.kind, .int .i64 r.a, .int .i64 r.b, .int .i64 r.c, .int .i64 r.d, .string r.name, .string r.text, .slice s.p s.n s.c]] H K := by
  apply meta_Image_part_fn
  unfold meta_Image_part_vc
  obtain ⟨c, ⟨hp, hP⟩, h1⟩ := img_open.1 h
  have hvl : c.vs.length = I.prt.length := hP.1
  have hpl := hok.parts
  have hR : Recs eP H c.ps c.vs := Own.recs ePlen (by decide) (h1.own 3 rfl) (by omega)
  have hn := hR.len
  have no : (r.a < 1 ∨ r.a > I.prt.length) → K (.tuple #[.int .i64 0, .int .i64 8]) H := fun e => by
    have e2 : partI I r = (I, 0, 8) := by
      unfold partI
      split
      · rfl
      · rename_i p hp
        split at hp
        · cases hp
        · have := (List.getElem?_eq_some_iff.1 hp).1
          omega
    rw [e2] at k
    exact k H h
  refine br_intro (fun w => no (.inl (of_decide_eq_true w))) (fun w => ⟨c.ps, h1.cell 0 rfl rfl, br_intro (fun w2 => no (.inr (by have := of_decide_eq_true w2; omega))) (fun w2 => ?_)⟩)
  clear no
  have hi : 1 ≤ r.a ∧ r.a ≤ I.prt.length := by
    have w := of_decide_eq_false w
    have w2 := of_decide_eq_false w2
    omega
  rw [wrap64_id (n := r.a - 1) (by omega) (by omega)]
  obtain ⟨q, o, v, e1, e2, e3⟩ := hR.at_ ePlen (by decide) (j := r.a - 1) (by omega) (by omega)
  obtain ⟨p, hpt⟩ : ∃ p, I.prt[(r.a - 1).toNat]? = some p := ⟨_, List.getElem?_eq_getElem (by omega)⟩
  have hv : PIn c.A v p := hP.2.1 _ _ _ e2 hpt
  have hr := hok.right p (List.mem_of_getElem? hpt)
  have hsm := hr.small
  have epart : partI I r = if (doP p r (upL I.brk)).2 = 0 then ({ I with prt := I.prt.set (r.a - 1).toNat (doP p r (upL I.brk)).1 }, (doP p r (upL I.brk)).1.version, 0) else (I, 0, (doP p r (upL I.brk)).2) := by
    unfold partI
    rw [if_neg (by omega), hpt]
  have kk : ∀ (a : Part × Int), doP p r (upL I.brk) = a → ∀ H', HL.Holds (img Lo m (if a.2 = 0 then { I with prt := I.prt.set (r.a - 1).toNat a.1 } else I) :: cs) H' → K (.tuple #[.int .i64 (if a.2 = 0 then a.1.version else 0), .int .i64 a.2]) H' := fun a ea H' h' => by
    subst ea
    rw [epart] at k
    split at h'
    · rename_i z
      rw [if_pos z]
      rw [if_pos z] at k
      rw [z]
      exact k H' h'
    · rename_i z
      rw [if_neg z]
      rw [if_neg z] at k
      exact k H' h'
  clear epart k
  have hpos : 0 < p.replicas.length := by have := hr.fewer; omega
  have hrd : ∀ {H' : Heap}, PIn H' v p → ∃ q6 o6, v.replicas.p = some ⟨q6, o6, none⟩ ∧ 0 ≤ (0 : Int) ∧ (0 : Int) < (v.replicas.n : Nat) ∧ cellH H' ⟨q6, o6 + Int.toNat 0, none⟩ = some (.int .i64 (p.replicas.headD 0)) := fun {H'} hv' => by
    have hrl := hv'.replicas.len
    obtain ⟨q6, o6, g1, g2, g3, g4⟩ := hv'.replicas.at_ (j := 0) (by decide) (by omega)
    refine ⟨q6, o6, g1, g2, g3, ?_⟩
    rw [g4]
    cases p.replicas <;> rfl
  refine ⟨c.ps, h1.cell 0 rfl rfl, q, o, e1, by omega, by omega, v.id, e3 0 _ rfl, v.leader, e3 1 _ rfl, v.epoch, e3 2 _ rfl, v.version, e3 3 _ rfl, v.isr, e3 4 _ rfl, v.replicas, e3 5 _ rfl, v.adding, e3 6 _ rfl, v.removing, e3 7 _ rfl, v.min, e3 8 _ rfl, ?_, HL.Sub.refl _, ?_⟩
  all_goals
    refine up_spec (i := 0) h rfl hok fun u H2 s2 h2 => ⟨u, rfl, ?_⟩
    first | refine ⟨s2, s2, ?_⟩ | refine ⟨s2, ?_⟩
    have h5 := ro_open h1 h2
    have h6 : HL.Holds (own 3 1 u (iv (upL I.brk)) :: ro c.A :: (imgC m I c ++ cs)) H2 := (h5.pull 6 rfl).swap
    obtain ⟨A1, sU, hU, h9⟩ := into_store h6 Own.mono
    have hul := upL_len hok
    have hup : Ints A1 u (upL I.brk) := own_ints hU (by omega)
    have hl1 : Ints A1 s r.list := (hl.sub hP.2.2).sub sU
    have hv1 := hv.sub sU
    refine br_intro (fun k5 => ?_) (fun k5 => br_intro (fun k6 => ?_) (fun k6 => br_intro (fun k7 => ?_) (fun k7 => br_intro (fun k10 => ?_) (fun k10 => br_intro (fun k9 => ?_) (fun k9 => ?_)))))
    · refine in_storeS (Q := fun x B' => ∃ w : PV, x = .tuple #[w.val, .int .i64 (alterP p r.b r.c r.d r.list (upL I.brk)).2] ∧ PIn B' w (alterP p r.b r.c r.d r.list (upL I.brk)).1) h9 (fun B K' s kk => alter_spec (hv1.sub s) hsm (hl1.sub s) (hup.sub s) fun w H' s' hw => kk _ H' s' ⟨w, rfl, hw⟩) fun x A' H3 sA qx s3 h3 => ?_
      obtain ⟨w, rfl, hw⟩ := qx
      exact ⟨w.id, w.leader, w.epoch, w.version, w.isr, w.replicas, w.adding, w.removing, w.min, _, rfl, part_tail (w := w) h3 hp hP (sU.trans sA) hi hok.parts hw (kk _ (by unfold doP; rw [if_pos (by simpa using k5)]))⟩
    · refine in_storeS (Q := fun x B' => ∃ w : PV, x = .tuple #[w.val, .int .i64 (beginP p r.list (upL I.brk)).2] ∧ PIn B' w (beginP p r.list (upL I.brk)).1) h9 (fun B K' s kk => begin_spec (hv1.sub s) hsm (hl1.sub s) (hup.sub s) fun w H' s' hw => kk _ H' s' ⟨w, rfl, hw⟩) fun x A' H3 sA qx s3 h3 => ?_
      obtain ⟨w, rfl, hw⟩ := qx
      exact ⟨w.id, w.leader, w.epoch, w.version, w.isr, w.replicas, w.adding, w.removing, w.min, _, rfl, part_tail (w := w) h3 hp hP (sU.trans sA) hi hok.parts hw (kk _ (by unfold doP; rw [if_neg (by simpa using k5), if_pos (by simpa using k6)]))⟩
    · refine in_storeS (Q := fun x B' => ∃ w : PV, x = .tuple #[w.val, .int .i64 (cancelP p (upL I.brk)).2] ∧ PIn B' w (cancelP p (upL I.brk)).1) h9 (fun B K' s kk => cancel_spec (hv1.sub s) hsm (hup.sub s) fun w H' s' hw => kk _ H' s' ⟨w, rfl, hw⟩) fun x A' H3 sA qx s3 h3 => ?_
      obtain ⟨w, rfl, hw⟩ := qx
      exact ⟨w.id, w.leader, w.epoch, w.version, w.isr, w.replicas, w.adding, w.removing, w.min, _, rfl, part_tail (w := w) h3 hp hP (sU.trans sA) hi hok.parts hw (kk _ (by unfold doP; rw [if_neg (by simpa using k5), if_neg (by simpa using k6), if_pos (by simpa using k7)]))⟩
    · refine in_storeS (Q := fun x B' => ∃ w : PV, x = .tuple #[w.val, .int .i64 (finishP p (upL I.brk)).2] ∧ PIn B' w (finishP p (upL I.brk)).1) h9 (fun B K' s kk => finish_spec (hv1.sub s) hsm (hup.sub s) fun w H' s' hw => kk _ H' s' ⟨w, rfl, hw⟩) fun x A' H3 sA qx s3 h3 => ?_
      obtain ⟨w, rfl, hw⟩ := qx
      exact ⟨w.id, w.leader, w.epoch, w.version, w.isr, w.replicas, w.adding, w.removing, w.min, _, rfl, part_tail (w := w) h3 hp hP (sU.trans sA) hi hok.parts hw (kk _ (by unfold doP; rw [if_neg (by simpa using k5), if_neg (by simpa using k6), if_neg (by simpa using k7), if_pos (by simpa using k10)]))⟩
    · obtain ⟨q6, o6, f1, f2, f3, f4⟩ := hrd (hv1.sub (h9.sub 0 rfl))
      refine ⟨q6, o6, f1, f2, f3, _, f4, contains_spec (hup.sub (h9.sub 0 rfl)) ⟨_, rfl, ?_⟩⟩
      have edo : doP p r (upL I.brk) = preferP p (upL I.brk) := by unfold doP; rw [if_neg (by simpa using k5), if_neg (by simpa using k6), if_neg (by simpa using k7), if_neg (by simpa using k10)]
      refine br_intro (fun z => ?_) (fun z => ?_)
      · have z : ¬ p.replicas.headD 0 ∈ upL I.brk := by simpa using z
        have := kk (zeroPart, 19) (by rw [edo]; unfold preferP; rw [if_neg z]) H2
        exact this (img_open.2 ⟨{ c with A := A1 }, ⟨hp, hP.sub sU⟩, h9.down 5⟩)
      · have z : p.replicas.headD 0 ∈ upL I.brk := by simpa using z
        refine ⟨q6, o6, f1, f2, f3, _, f4, ?_⟩
        refine in_storeS (Q := fun x B' => ∃ w : PV, x = .tuple #[w.val, .int .i64 (electP p (p.replicas.headD 0)).2] ∧ PIn B' w (electP p (p.replicas.headD 0)).1) h9 (fun B K' s kk => elect_spec (hv1.sub s) hsm fun w H' s' hw => kk _ H' s' ⟨w, rfl, hw⟩) fun x A' H3 sA qx s3 h3 => ?_
        obtain ⟨w, rfl, hw⟩ := qx
        exact ⟨w.id, w.leader, w.epoch, w.version, w.isr, w.replicas, w.adding, w.removing, w.min, _, rfl, s3, part_tail (w := w) h3 hp hP (sU.trans sA) hi hok.parts hw (kk _ (by rw [edo]; unfold preferP; rw [if_pos z]))⟩
    · exfalso
      simp at k5 k6 k7 k9 k10
      omega
end
end Go.Proofs.YtmofinghoacobaaGreatDoor
namespace Go.Proofs.YtmofinghoacobaaGreatDoor
open Go Go.HL Go.RowKit Go.Maps Go.Shelf
set_option maxHeartbeats 3200000
set_option maxRecDepth 100000
theorem trim_fn {s cutset : ByteArray} {H : Heap} {K : Value → Heap → Prop} (hs : s.size ≤ 9223372036854775807) (hcs : cutset.size < 4294967281) (ha : ∀ (j : Nat) (b : UInt8), cutset.data.toList[j]? = some b → b.toNat < 128)
    (k : K (.string ⟨(Lib.trimS s.data.toList cutset.data.toList).toArray⟩) H) : FnH Tryz.prog 111 #[.string s, .string cutset] H K :=
  FnH.of_below (fun w => Any.strings_Trim_laid Tryz.lays160 (by kernel_rfl) s cutset w hs hcs ha) k
theorem dropWhile_all {α : Type} {p : α → Bool} : ∀ {l : List α}, l.dropWhile p = [] ↔ ∀ a ∈ l, p a = true := by
  intro l
  induction l with
  | nil => simp
  | cons a l ih =>
    rw [List.dropWhile_cons]
    split
    · rename_i q; rw [ih]; simp [q]
    · rename_i q; simp [q]
theorem dropWhile_first {α : Type} {p : α → Bool} : ∀ {l : List α} {a : α} {t : List α}, l.dropWhile p = a :: t → p a = false := by
  intro l
  induction l with
  | nil => intro a t h; simp at h
  | cons b l ih =>
    intro a t h
    rw [List.dropWhile_cons] at h
    split at h
    · exact ih h
    · rename_i q
      simp only [List.cons.injEq] at h
      rw [← h.1]; simpa using q
theorem trim_nil {l cs : List UInt8} : Lib.trimS l cs = [] ↔ (l.all fun b => cs.contains b) = true := by
  unfold Lib.trimS Lib.trimLeftS Lib.trimRightS
  rw [dropWhile_all, List.all_eq_true]
  constructor
  · intro h
    have h1 : (l.reverse.dropWhile fun x => cs.contains x) = [] := by
      cases e : l.reverse.dropWhile fun x => cs.contains x with
      | nil => rfl
      | cons a t =>
        have := h a (by rw [e]; simp)
        have h2 : cs.contains a = false := by
          exact dropWhile_first e
        rw [h2] at this; cases this
    have := dropWhile_all.1 h1
    intro a ha
    exact this a (by simpa using ha)
  · intro h
    have : (l.reverse.dropWhile fun x => cs.contains x) = [] := dropWhile_all.2 fun a ha => h a (by simpa using ha)
    rw [this]; simp
theorem bytes_nil (s : ByteArray) : (s.toList == (⟨#[]⟩ : ByteArray).toList) = decide (s.size = 0) := by
  rw [ByteArray.toList_eq, ByteArray.toList_eq]
  have : s.size = s.data.toList.length := (Array.length_toList).symm
  have e2 : (⟨#[]⟩ : ByteArray).data.toList = [] := rfl
  rw [this, e2]
  cases s.data.toList with
  | nil => rfl
  | cons a l => rw [decide_eq_false (by simp)]; rfl
theorem named_spec {s : ByteArray} {H : Heap} {K : Value → Heap → Prop} (k : K (.bool (tNamed s)) H) : FnH Tryz.prog 71 #[.string s] H K := by
  apply meta_named_fn
  unfold meta_named_vc
  rw [bytes_nil]
  unfold tNamed at k
  refine br_intro (fun q => br_intro (fun q2 => ?_) (fun q2 => ?_)) (fun q => ?_)
  · have q : ¬ s.size = 0 := by simpa using q
    have q2 := of_decide_eq_true q2
    rw [decide_eq_true q, decide_eq_true (show s.size ≤ 32 by omega)] at k
    refine trim_fn (by omega) (by decide) (fun j b hj => ?_) ⟨_, rfl, ?_⟩
    · have hm := List.mem_of_getElem? hj
      have : ∀ b ∈ tCut, b.toNat < 128 := by decide
      exact this b hm
    · rw [bytes_nil]
      have e : ((⟨(Lib.trimS s.data.toList tCut).toArray⟩ : ByteArray).size = 0) ↔ (s.data.toList.all fun b => tCut.contains b) = true := by
        rw [← trim_nil]
        show ((Lib.trimS s.data.toList tCut).toArray.size = 0) ↔ _
        simp
      have e2 : decide ((⟨(Lib.trimS s.data.toList tCut).toArray⟩ : ByteArray).size = 0) = (s.data.toList.all fun b => tCut.contains b) := by
        rw [Bool.eq_iff_iff, decide_eq_true_eq]; exact e
      show K (.bool (decide ((⟨(Lib.trimS s.data.toList tCut).toArray⟩ : ByteArray).size = 0))) H
      rw [e2]
      rw [Bool.true_and, Bool.true_and] at k
      exact k
  · have q2 := of_decide_eq_false q2
    rw [decide_eq_false (show ¬ s.size ≤ 32 by omega), Bool.and_false, Bool.false_and] at k
    exact k
  · have q : s.size = 0 := by simpa using q
    rw [decide_eq_false (by omega : ¬ s.size ≠ 0), Bool.false_and, Bool.false_and] at k
    exact k
theorem okPart : ElemOK Tryz.prog 35 41 9 := ElemOK.of (by kernel_rfl)
theorem okTop : ElemOK Tryz.prog 68 74 3 := ElemOK.of (by kernel_rfl)
section
variable {cs : List Chunk} {H Lo : Heap} {K : Value → Heap → Prop}
theorem clone_hold {s : Sl} {l : List Int} (h : HL.Holds cs H) (hl : Ints H s l) (hb : l.length ≤ 1000000) (k : ∀ (r : Sl) H', HL.Holds (own 3 1 r (iv l) :: cs) H' → r.n = l.length → K (.slice r.p r.n r.c) H') :
    FnH Tryz.prog 66 #[.slice s.p s.n s.c] H K := by
  apply slices_Clone_Lint_int_fn
  unfold slices_Clone_Lint_int_vc
  refine br_intro (fun q => ?_) (fun q => ?_)
  · have : s.p = none := Option.isNone_iff_eq_none.1 q
    have := hl.pnone this
    subst this
    exact k ⟨none, 0, 0⟩ H (h.own_nil _ _) rfl
  · intro q1 hq1
    refine letH_intro fun H1 g1 => ?_
    have h1 : HL.Holds (blk q1 (.cells #[] 3 (0, 0)) :: cs) H1 := by rw [g1]; exact h.add hq1 _
    have hx : CellsAt H1 s.p (iv l) := by rw [g1]; exact hl.cells.sub (HL.Sub.new hq1 _)
    have h2 : HL.Holds (own 3 1 ⟨some ⟨q1, 0, none⟩, 0, 0⟩ [] :: cs) H1 := h1.head fun A hA => ⟨rfl, Nat.le_refl _, .inr ⟨q1, #[], rfl, hA, rfl, fun i hi => by simp at hi⟩⟩
    refine Holds.append (s := ⟨some ⟨q1, 0, none⟩, 0, 0⟩) okInt okInt.under h2 hx (by simp [hl.len]) (noTups_ints _ _) (by rw [hl.len]; show 0 + l.length ≤ _; omega) fun r H' h' n' => ⟨r, rfl, k r H' h' ?_⟩
    rw [n', hl.len]; simp
theorem Holds.pushS {P : Program} {t e sz : Nat} (hE : ElemOK P t e sz) {ty : Nat} {s : Sl} {vs : List Value} {G : Heap} (sG : HL.Sub G H) (h : HL.Holds (own e sz s vs :: cs) H) {xs : List Value} {T m : Nat} (hxl : xs.length = m * sz) (hnt : noTups xs = true)
    (hb : s.n + m ≤ 268435456) (k : ∀ (r : Sl) H', HL.Holds (own e sz r (vs ++ xs) :: cs) H' → r.n = s.n + m → K (.slice r.p r.n r.c) H') :
    ∀ q, H q = none → letH (H.upd q (.cells xs.toArray T (0, 0))) fun H1 => HL.Sub G H1 ∧ runH P (Builtin.append_ #[t, t] ty #[.slice s.p s.n s.c, .slice (some ⟨q, 0, none⟩) m m]) H1 K := by
  refine h.newS fun q H1 s1 h1 => ⟨sG.trans s1, ?_⟩
  have hx : CellsAt H1 (some ⟨q, 0, none⟩) xs := CellsAt.block (h1.get 0 rfl) fun i hi => by simp [hi]
  exact Holds.append hE hE.under h1.swap hx hxl hnt hb fun r H' h3 n3 => k r H' h3.swap.tail n3
end
end Go.Proofs.YtmofinghoacobaaGreatDoor
namespace Go.Proofs.YtmofinghoacobaaGreatDoor
open Go Go.HL
set_option maxHeartbeats 3200000
set_option maxRecDepth 100000
theorem repl_snoc {up : List Int} {n k : Nat} : repl up (n + 1) k = repl up n k ++ [up.getD ((k + n) % up.length) 0] := by
  unfold repl
  rw [List.range_succ, List.map_append]; rfl
section
variable {cs : List Chunk} {H Lo : Heap} {K : Value → Heap → Prop}
theorem topic_spec {m : Nat} {I : Im} {r : Mt} {s : Sl} (h : HL.Holds (img Lo m I :: cs) H) (hok : ImOk I) (k : ∀ H', HL.Holds (img Lo m (topicI I r.name r.a r.b r.c).1 :: cs) H' → K (.tuple #[.int .i64 (topicI I r.name r.a r.b r.c).2.1, .int .i64 (topicI I r.name r.a r.b r.c).2.2]) H') :
    FnH Tryz.prog 34 #[.pointer (some ⟨m, 0, none⟩), .agg #[.int .i64 r.kind, .int .i64 r.a, .int .i64 r.b, .int .i64 r.c, .int .i64 r.d, .string r.name, .string r.text, .slice s.p s.n s.c]] H K := by
  apply meta_Image_topic_fn
  unfold meta_Image_topic_vc
  obtain ⟨c, ⟨hp, hP⟩, h1⟩ := img_open.1 h
  have hpl := hok.parts
  refine up_spec (i := 0) h rfl hok fun u H2 s2 h2 => ⟨u, rfl, ?_⟩
  have h5 : HL.Holds (own 3 1 u (iv (upL I.brk)) :: (imgL m I c ++ cs)) H2 := ro_open h1 h2
  have hI2 := h.up s2
  have hul := upL_len hok
  have hun := (own_ints (h5.own 0 rfl) (by omega)).len
  unfold topicI at k
  refine ⟨fun t H' => H' = H2 ∧ (t = true ↔ tNamed r.name = false ∨ r.a < 1 ∨ r.a > 16 ∨ r.b < 1 ∨ r.b > 5 ∨ r.c < 1 ∨ r.c > r.b), named_spec ⟨_, rfl, ?_⟩, ?_⟩
  · refine br_intro (fun w => ⟨rfl, rfl, iff_of_true rfl (.inl (by simpa using w))⟩) (fun w0 => br_intro (fun w => ⟨rfl, rfl, iff_of_true rfl (.inr (.inl (of_decide_eq_true w)))⟩) (fun w1 => br_intro (fun w => ⟨rfl, rfl, iff_of_true rfl (.inr (.inr (.inl (of_decide_eq_true w))))⟩) (fun w2 =>
      br_intro (fun w => ⟨rfl, rfl, iff_of_true rfl (.inr (.inr (.inr (.inl (of_decide_eq_true w)))))⟩) (fun w3 => br_intro (fun w => ⟨rfl, rfl, iff_of_true rfl (.inr (.inr (.inr (.inr (.inl (of_decide_eq_true w))))))⟩) (fun w4 => br_intro (fun w => ⟨rfl, rfl, iff_of_true rfl (.inr (.inr (.inr (.inr (.inr (.inl (of_decide_eq_true w)))))))⟩) (fun w5 => ⟨rfl, rfl, ?_⟩))))))
    have w0 : tNamed r.name = true := by simpa using w0
    have w1 := of_decide_eq_false w1
    have w2 := of_decide_eq_false w2
    have w3 := of_decide_eq_false w3
    have w4 := of_decide_eq_false w4
    have w5 := of_decide_eq_false w5
    rw [decide_eq_true_iff, w0]
    constructor
    · intro q; exact .inr (.inr (.inr (.inr (.inr (.inr q)))))
    · rintro (q | q)
      · cases q
      · omega
  rintro t H3 ⟨rfl, ht⟩
  refine br_intro (fun w => ?_) (fun w => ?_)
  · rw [if_pos (ht.1 w)] at k
    exact k H3 hI2
  have hg : ¬ (tNamed r.name = false ∨ r.a < 1 ∨ r.a > 16 ∨ r.b < 1 ∨ r.b > 5 ∨ r.c < 1 ∨ r.c > r.b) := fun q => by rw [ht.2 q] at w; cases w
  rw [if_neg hg] at k
  have hab : 1 ≤ r.a ∧ r.a ≤ 16 ∧ 1 ≤ r.b ∧ r.b ≤ 5 := by omega
  refine find_spec (i := 0) hI2 rfl hok (fun hno => ⟨⟨none, 0, 0⟩, rfl, br_f rfl ?_⟩) fun j t ht1 ht2 ht3 fl H4 s4 h4 => ⟨fl, rfl, br_t ?_ ?_⟩
  rotate_left
  · have hm := List.mem_of_getElem? ht1
    obtain ⟨-, -, -, t3, t4⟩ := hok.topv t hm
    have hfi := own_ints (h4.own 0 rfl) (by rw [List.length_map, List.length_range]; omega)
    cases e : fl.p with
    | some a => rfl
    | none =>
      have e1 := hfi.pnone e
      have e2 := congrArg List.length e1
      rw [List.length_map, List.length_range] at e2
      have e2 : t.2.2.toNat = 0 := e2
      omega
  · have hm := List.mem_of_getElem? ht1
    rw [if_pos (List.any_eq_true.2 ⟨t, hm, decide_eq_true ht2⟩)] at k
    exact k H4 (hI2.up s4)
  have hany : ¬ (I.top.any fun t => decide (t.1 = r.name)) = true := fun q => by
    obtain ⟨t, ht, e⟩ := List.any_eq_true.1 q
    exact hno t ht (of_decide_eq_true e)
  rw [if_neg hany] at k
  have hR0 : Recs eP H3 c.ps c.vs := Own.recs ePlen (by decide) (h5.own 4 rfl) (by rw [hP.1]; omega)
  have hn0 : c.ps.n = I.prt.length := by rw [hR0.len, hP.1]
  refine ⟨c.ps, h5.cell 1 rfl rfl, ?_⟩
  rw [hn0, wrap64_id (n := (I.prt.length : Int) + r.a) (by omega) (by omega)]
  refine br_intro (fun w2 => ?_) (fun w2 => br_intro (fun w3 => ?_) (fun w3 => ?_))
  · rw [if_pos (.inl (of_decide_eq_true w2))] at k
    exact k H3 hI2
  · rw [if_pos (.inr (by have := of_decide_eq_true w3; omega))] at k
    exact k H3 hI2
  have w2 := of_decide_eq_false w2
  have w3 := of_decide_eq_false w3
  rw [if_neg (by omega)] at k
  have hub : r.b.toNat ≤ (upL I.brk).length := by omega
  refine ⟨c.ps, h5.cell 1 rfl rfl, ?_⟩
  rw [hn0, wrap64_id (n := (I.prt.length : Int) + 1) (by omega) (by omega)]
  refine ⟨fun n H' => 0 ≤ n ∧ n ≤ r.a ∧ ∃ d : Pc, (List.Perm d.fs I.brk ∧ PsIn Lo d.A d.vs (I.prt ++ (List.range n.toNat).map (newPart (upL I.brk) ((I.prt.length : Int) + 1) r.b r.c))) ∧ HL.Holds (own 3 1 u (iv (upL I.brk)) :: (imgL m { I with prt := I.prt ++ (List.range n.toNat).map (newPart (upL I.brk) ((I.prt.length : Int) + 1) r.b r.c) } d ++ cs)) H',
    fun n _ => (r.a - n).toNat, ⟨Int.le_refl _, by omega, c, ⟨hp, by simpa using hP⟩, by simpa using h5⟩, ?_⟩
  rintro n H4 ⟨n0, n1, d, ⟨hdp, hdP⟩, h6⟩
  have hdl : d.vs.length = I.prt.length + n.toNat := by rw [hdP.1]; simp
  refine br_intro (fun y => ?_) (fun y => ?_)
  · have y := of_decide_eq_true y
    refine ⟨fun l j H' => 0 ≤ j ∧ j ≤ r.b ∧ HL.Holds (own 3 1 l (iv (repl (upL I.brk) j.toNat n.toNat)) :: own 3 1 u (iv (upL I.brk)) :: (imgL m { I with prt := I.prt ++ (List.range n.toNat).map (newPart (upL I.brk) ((I.prt.length : Int) + 1) r.b r.c) } d ++ cs)) H', fun _ j _ => (r.b - j).toNat,
      ⟨Int.le_refl _, by omega, h6.own_nil 3 1⟩, ?_⟩
    rintro l j H5 ⟨j0, j1, h7⟩
    have hli : Ints H5 l (repl (upL I.brk) j.toNat n.toNat) := own_ints (h7.own 0 rfl) (by rw [repl_len]; omega)
    have hln := hli.len
    rw [repl_len] at hln
    refine br_intro (fun z => ?_) (fun z => ?_)
    · have z := of_decide_eq_true z
      have hui : Ints H5 u (upL I.brk) := own_ints (h7.own 1 rfl) (by omega)
      rw [wrap64_id (n := n + j) (by omega) (by omega), wrap64_id (n := j + 1) (by omega) (by omega)]
      have hmod : Int.tmod (n + j) (u.n : Int) = (((n.toNat + j.toNat) % (upL I.brk).length : Nat) : Int) := by
        rw [Int.tmod_eq_emod_of_nonneg (by omega), hun]
        have e : n + j = ((n.toNat + j.toNat : Nat) : Int) := by omega
        rw [e]; rfl
      have hlt : (n.toNat + j.toNat) % (upL I.brk).length < (upL I.brk).length := Nat.mod_lt _ (by omega)
      obtain ⟨q, o, g1, g2, g3, g4⟩ := hui.at_ (j := Int.tmod (n + j) (u.n : Int)) (by rw [hmod]; omega) (by rw [hmod]; omega)
      refine ⟨by omega, q, o, g1, g2, g3, _, g4, ?_⟩
      have eg : (upL I.brk).getD (Int.tmod (n + j) (u.n : Int)).toNat 0 = (upL I.brk).getD ((n.toNat + j.toNat) % (upL I.brk).length) 0 := by rw [hmod, Int.toNat_natCast]
      rw [eg]
      refine Holds.push okInt h7 (xs := [.int .i64 ((upL I.brk).getD ((n.toNat + j.toNat) % (upL I.brk).length) 0)]) (m := 1) rfl rfl (by omega) fun l2 H6 h8 n8 => ⟨l2, rfl, rfl, ⟨by omega, by omega, ?_⟩, by dsimp only; omega⟩
      have ej : (j + 1).toNat = j.toNat + 1 := by omega
      rw [ej, repl_snoc]
      simpa [iv] using h8
    · have z := of_decide_eq_false z
      have ejb : j.toNat = r.b.toNat := by omega
      rw [ejb] at h7 hli
      have hdR : Recs eP H5 d.ps d.vs := Own.recs ePlen (by decide) (h7.own 5 rfl) (by omega)
      have hdn := hdR.len
      obtain ⟨q, o, g1, g2, g3, g4⟩ := hli.at_ (j := 0) (by decide) (by omega)
      refine ⟨d.ps, h7.cell 2 rfl rfl, q, o, g1, g2, g3, _, g4, clone_hold (Holds.whole H5) hli (by rw [repl_len]; omega) fun l7 H6 h8 n8 => ⟨l7, rfl, h8.sub 1 rfl, ?_⟩⟩
      have s6 := h8.sub 1 rfl
      have h9 := ro_open h7 h8
      rw [wrap64_id (n := (I.prt.length : Int) + 1 + n) (by omega) (by omega), wrap64_id (n := n + 1) (by omega) (by omega)]
      have h10 : HL.Holds (own 3 1 l7 (iv (repl (upL I.brk) r.b.toNat n.toNat)) :: ro d.A :: own 3 1 l (iv (repl (upL I.brk) r.b.toNat n.toNat)) :: own 3 1 u (iv (upL I.brk)) :: (imgC m { I with prt := I.prt ++ (List.range n.toNat).map (newPart (upL I.brk) ((I.prt.length : Int) + 1) r.b r.c) } d ++ cs)) H6 := (h9.pull 8 rfl).swap
      obtain ⟨A1, sA1, o1, h11⟩ := into_store h10 Own.mono
      obtain ⟨A2, sA2, o2, h12⟩ := into_store h11.swap Own.mono
      have i1 : Ints A2 l7 (repl (upL I.brk) r.b.toNat n.toNat) := (own_ints o1 (by rw [repl_len]; omega)).sub sA2
      have i2 : Ints A2 l (repl (upL I.brk) r.b.toNat n.toNat) := own_ints o2 (by rw [repl_len]; omega)
      have e0 : (repl (upL I.brk) r.b.toNat n.toNat).getD (Int.toNat 0) 0 = (repl (upL I.brk) r.b.toNat n.toNat).headD 0 := by cases repl (upL I.brk) r.b.toNat n.toNat <;> rfl
      rw [e0]
      have hw : PIn A2 ⟨(I.prt.length : Int) + 1 + n, (repl (upL I.brk) r.b.toNat n.toNat).headD 0, 1, 1, l7, l, ⟨none, 0, 0⟩, ⟨none, 0, 0⟩, r.c⟩ (newPart (upL I.brk) ((I.prt.length : Int) + 1) r.b r.c n.toNat) :=
        ⟨by show (I.prt.length : Int) + 1 + n = (I.prt.length : Int) + 1 + (n.toNat : Int); omega, rfl, rfl, rfl, rfl, i1, i2, Ints.nil _, Ints.nil _⟩
      have h13 : HL.Holds (own 41 9 d.ps (d.vs.flatMap eP) :: ro A2 :: own 3 1 u (iv (upL I.brk)) :: blk m (.cells #[.int .i64 I.app, .map (some d.mb), .slice d.ts.p d.ts.n d.ts.c, .slice d.ps.p d.ps.n d.ps.c, .slice d.rs.p d.rs.n d.rs.c] 70 (0, 0)) :: mp d.mb encI (bmap d.fs) :: own 74 3 d.ts (I.top.flatMap eT) :: own 3 1 d.rs (iv I.prd) :: cs) H6 := h12.pull 5 rfl
      refine Holds.pushS okPart s6 h13 (xs := eP ⟨(I.prt.length : Int) + 1 + n, (repl (upL I.brk) r.b.toNat n.toNat).headD 0, 1, 1, l7, l, ⟨none, 0, 0⟩, ⟨none, 0, 0⟩, r.c⟩) (m := 1) rfl rfl (by omega) fun l8 H7 h14 n14 => ⟨l8, rfl, h14.store 3 rfl (by simp) fun H8 h15 => ⟨rfl, ⟨by omega, by omega, { d with ps := l8, A := A2, vs := d.vs ++ [⟨(I.prt.length : Int) + 1 + n, (repl (upL I.brk) r.b.toNat n.toNat).headD 0, 1, 1, l7, l, ⟨none, 0, 0⟩, ⟨none, 0, 0⟩, r.c⟩] }, ⟨hdp, ?_⟩, ?_⟩, by dsimp only; omega⟩⟩
      · have en : (n + 1).toNat = n.toNat + 1 := by omega
        rw [en, List.range_succ, List.map_append, ← List.append_assoc]
        exact (hdP.sub (sA1.trans sA2)).snoc hw
      · have h15 : HL.Holds (own 41 9 l8 (d.vs.flatMap eP ++ eP ⟨(I.prt.length : Int) + 1 + n, (repl (upL I.brk) r.b.toNat n.toNat).headD 0, 1, 1, l7, l, ⟨none, 0, 0⟩, ⟨none, 0, 0⟩, r.c⟩) :: ro A2 :: own 3 1 u (iv (upL I.brk)) :: blk m (.cells #[.int .i64 I.app, .map (some d.mb), .slice d.ts.p d.ts.n d.ts.c, .slice l8.p l8.n l8.c, .slice d.rs.p d.rs.n d.rs.c] 70 (0, 0)) :: mp d.mb encI (bmap d.fs) :: own 74 3 d.ts (I.top.flatMap eT) :: own 3 1 d.rs (iv I.prd) :: cs) H8 := h15
        have ef : ∀ w : PV, d.vs.flatMap eP ++ eP w = (d.vs ++ [w]).flatMap eP := fun w => by simp
        rw [ef] at h15
        have h16 := h15.pull 2 rfl
        have h17 := (h16.pull 2 rfl).down 6
        exact ((h17.pull 1 rfl).down 4).pull 0 rfl
  · have y := of_decide_eq_false y
    have ea : n.toNat = r.a.toNat := by omega
    rw [ea] at h6 hdP
    have htl := hok.tops
    have hT : Recs eT H4 d.ts I.top := Own.recs eTlen (by decide) (h6.own 3 rfl) (by omega)
    have htn := hT.len
    refine ⟨d.ts, h6.cell 1 rfl rfl, ?_⟩
    refine Holds.pushS okTop (HL.Sub.refl _) (h6.pull 3 rfl) (xs := [.string r.name, .int .i64 ((I.prt.length : Int) + 1), .int .i64 r.a]) (m := 1) rfl rfl (by omega) fun l10 H5 h7 n7 => ⟨l10, rfl, h7.store 2 rfl (by simp) fun H6 h8 => k H6 (img_open.2 ⟨{ d with ts := l10 }, ⟨hdp, hdP⟩, ?_⟩)⟩
    have e : I.top.flatMap eT ++ [.string r.name, .int .i64 ((I.prt.length : Int) + 1), .int .i64 r.a] = (I.top ++ [(r.name, (I.prt.length : Int) + 1, r.a)]).flatMap eT := by simp
    rw [e] at h8
    have h9 := (h8.pull 1 rfl).tail
    exact h9.down 2
end
end Go.Proofs.YtmofinghoacobaaGreatDoor
namespace Go.Proofs.YtmofinghoacobaaGreatDoor
open Go Go.HL
set_option maxHeartbeats 3200000
set_option maxRecDepth 100000
theorem ImOk.setApp {I : Im} (h : ImOk I) (n : Int) : ImOk { I with app := n } := ⟨h.sorted, h.ids, h.right, h.parts, h.tops, h.topv, h.prds, h.prd⟩
abbrev Mt.val (r : Mt) (s : Sl) : Value := .agg #[.int .i64 r.kind, .int .i64 r.a, .int .i64 r.b, .int .i64 r.c, .int .i64 r.d, .string r.name, .string r.text, .slice s.p s.n s.c]
section
variable {cs : List Chunk} {H Lo : Heap} {K : Value → Heap → Prop}
theorem apply_spec {m : Nat} {I : Im} {r : Mt} {s : Sl} (h : HL.Holds (img Lo m I :: cs) H) (hok : ImOk I) (hl : Ints Lo s r.list) (ha : 0 ≤ I.app ∧ I.app ≤ 9223372036854775806) (k : ∀ H', HL.Holds (img Lo m (applyI I r).1 :: cs) H' → K (.tuple #[.int .i64 (applyI I r).2.1, .int .i64 (applyI I r).2.2]) H') :
    FnH Tryz.prog 12 #[.pointer (some ⟨m, 0, none⟩), r.val s] H K := by
  apply meta_Image_Apply_fn
  unfold meta_Image_Apply_vc
  obtain ⟨c, ⟨hp, hP⟩, h1⟩ := img_open.1 h
  refine ⟨_, h1.cell 0 rfl rfl, h1.store 0 rfl (by simp) fun H1 h2 => ?_⟩
  rw [wrap64_id (n := I.app + 1) (by omega) (by omega)] at h2
  have h3 : HL.Holds (img Lo m { I with app := I.app + 1 } :: cs) H1 := img_open.2 ⟨c, ⟨hp, hP⟩, h2⟩
  have hok2 := hok.setApp (I.app + 1)
  unfold applyI bodyI at k
  by_cases e1 : r.kind = 1
  · rw [if_pos e1] at k
    repeat first | refine br_t (by rw [e1]; rfl) ?_ | refine br_f (by rw [e1]; rfl) ?_
    exact register_spec h3 hok2 fun H' h' => ⟨_, _, rfl, k H' h'⟩
  rw [if_neg e1] at k
  by_cases e2 : r.kind = 2
  · rw [if_pos (.inl e2)] at k
    repeat first | refine br_t (by rw [e2]; rfl) ?_ | refine br_f (by rw [e2]; rfl) ?_
    exact turn_spec h3 hok2 fun H' h' => ⟨_, _, rfl, k H' h'⟩
  by_cases e3 : r.kind = 3
  · rw [if_pos (.inr e3)] at k
    repeat first | refine br_t (by rw [e3]; rfl) ?_ | refine br_f (by rw [e3]; rfl) ?_
    exact turn_spec h3 hok2 fun H' h' => ⟨_, _, rfl, k H' h'⟩
  rw [if_neg (by omega)] at k
  by_cases e4 : r.kind = 4
  · rw [if_pos e4] at k
    repeat first | refine br_t (by rw [e4]; rfl) ?_ | refine br_f (by rw [e4]; rfl) ?_
    exact topic_spec h3 hok2 fun H' h' => ⟨_, _, rfl, k H' h'⟩
  rw [if_neg e4] at k
  by_cases e5 : r.kind = 5 ∨ r.kind = 6 ∨ r.kind = 7 ∨ r.kind = 9 ∨ r.kind = 10
  · rw [if_pos e5] at k
    rcases id e5 with e | e | e | e | e
    all_goals
      repeat first | refine br_t (by rw [e]; rfl) ?_ | refine br_f (by rw [e]; rfl) ?_
      exact part_spec h3 hok2 hl e5 fun H' h' => ⟨_, _, rfl, k H' h'⟩
  rw [if_neg e5] at k
  by_cases e8 : r.kind = 8
  · rw [if_pos e8] at k
    repeat first | refine br_t (by rw [e8]; rfl) ?_ | refine br_f (by rw [e8]; rfl) ?_
    exact pid_spec h3 hok2 fun H' h' => ⟨_, _, rfl, k H' h'⟩
  rw [if_neg e8] at k
  repeat refine br_f (beq_eq_false_iff_ne.2 (by omega)) ?_
  exact k H1 h3
theorem apply_spec0 {m : Nat} {I : Im} {r : Mt} {s : Sl} (h : HL.Holds (img Lo m I :: cs) H) (hok : ImOk I) (hk : r.kind = 1 ∨ r.kind = 2 ∨ r.kind = 3 ∨ r.kind = 4 ∨ r.kind = 8) (ha : 0 ≤ I.app ∧ I.app ≤ 9223372036854775806) (k : ∀ H', HL.Holds (img Lo m (applyI I r).1 :: cs) H' → K (.tuple #[.int .i64 (applyI I r).2.1, .int .i64 (applyI I r).2.2]) H') :
    FnH Tryz.prog 12 #[.pointer (some ⟨m, 0, none⟩), r.val s] H K := by
  apply meta_Image_Apply_fn
  unfold meta_Image_Apply_vc
  obtain ⟨c, ⟨hp, hP⟩, h1⟩ := img_open.1 h
  refine ⟨_, h1.cell 0 rfl rfl, h1.store 0 rfl (by simp) fun H1 h2 => ?_⟩
  rw [wrap64_id (n := I.app + 1) (by omega) (by omega)] at h2
  have h3 : HL.Holds (img Lo m { I with app := I.app + 1 } :: cs) H1 := img_open.2 ⟨c, ⟨hp, hP⟩, h2⟩
  have hok2 := hok.setApp (I.app + 1)
  unfold applyI bodyI at k
  by_cases e1 : r.kind = 1
  · rw [if_pos e1] at k
    repeat first | refine br_t (by rw [e1]; rfl) ?_ | refine br_f (by rw [e1]; rfl) ?_
    exact register_spec h3 hok2 fun H' h' => ⟨_, _, rfl, k H' h'⟩
  rw [if_neg e1] at k
  by_cases e2 : r.kind = 2
  · rw [if_pos (.inl e2)] at k
    repeat first | refine br_t (by rw [e2]; rfl) ?_ | refine br_f (by rw [e2]; rfl) ?_
    exact turn_spec h3 hok2 fun H' h' => ⟨_, _, rfl, k H' h'⟩
  by_cases e3 : r.kind = 3
  · rw [if_pos (.inr e3)] at k
    repeat first | refine br_t (by rw [e3]; rfl) ?_ | refine br_f (by rw [e3]; rfl) ?_
    exact turn_spec h3 hok2 fun H' h' => ⟨_, _, rfl, k H' h'⟩
  rw [if_neg (by omega)] at k
  by_cases e4 : r.kind = 4
  · rw [if_pos e4] at k
    repeat first | refine br_t (by rw [e4]; rfl) ?_ | refine br_f (by rw [e4]; rfl) ?_
    exact topic_spec h3 hok2 fun H' h' => ⟨_, _, rfl, k H' h'⟩
  rw [if_neg e4] at k
  rw [if_neg (by omega)] at k
  by_cases e8 : r.kind = 8
  · rw [if_pos e8] at k
    repeat first | refine br_t (by rw [e8]; rfl) ?_ | refine br_f (by rw [e8]; rfl) ?_
    exact pid_spec h3 hok2 fun H' h' => ⟨_, _, rfl, k H' h'⟩
  omega
end
end Go.Proofs.YtmofinghoacobaaGreatDoor
namespace Go.Proofs.YtmofinghoacobaaGreatDoor
open Go Go.HL
set_option maxHeartbeats 3200000
set_option maxRecDepth 100000
structure PsL (A : Heap) (s : Sl) (ps : List Part) : Prop where
  ex : ∃ vs : List PV, Recs eP A s vs ∧ vs.length = ps.length ∧ ∀ (i : Nat) (v : PV) (p : Part), vs[i]? = some v → ps[i]? = some p → PIn A v p
theorem PsL.sub {A A' : Heap} {s : Sl} {ps : List Part} (h : PsL A s ps) (hs : HL.Sub A A') : PsL A' s ps := by
  obtain ⟨vs, h1, h2, h3⟩ := h.ex
  exact ⟨vs, Recs.mono _ _ hs h1, h2, fun i v p e1 e2 => (h3 i v p e1 e2).sub hs⟩
theorem PsL.len {A : Heap} {s : Sl} {ps : List Part} (h : PsL A s ps) : s.n = ps.length := by
  obtain ⟨vs, h1, h2, h3⟩ := h.ex
  rw [h1.len, h2]
theorem PsL.at_ {A : Heap} {s : Sl} {ps : List Part} (h : PsL A s ps) {j : Int} (h0 : 0 ≤ j) (h1 : j < ps.length) : ∃ (q o : Nat) (v : PV) (p : Part), s.p = some ⟨q, o, none⟩ ∧ ps[j.toNat]? = some p ∧ PIn A v p ∧ ∀ (f : Nat) (x : Value), (eP v)[f]? = some x → cellH A ⟨q, o + j.toNat * 9 + f, none⟩ = some x := by
  obtain ⟨vs, g1, g2, g3⟩ := h.ex
  have hl := g1.len
  obtain ⟨q, o, v, e1, e2, e3⟩ := g1.at_ ePlen (by decide) h0 (by omega)
  obtain ⟨p, hp⟩ : ∃ p, ps[j.toNat]? = some p := ⟨_, List.getElem?_eq_getElem (by omega)⟩
  exact ⟨q, o, v, p, e1, hp, g3 _ _ _ e2 hp, fun f x hx => e3 f x hx⟩
def imgp (A : Heap) (m : Nat) (I : Im) : Chunk := fun H => ∃ c : Pc, (List.Perm c.fs I.brk ∧ PsIn A A c.vs I.prt) ∧ HL.Holds (imgC m I c) H
theorem imgp_sub {A A' : Heap} {m : Nat} {I : Im} (s : HL.Sub A A') : ∀ H, imgp A m I H → imgp A' m I H := fun _ ⟨c, ⟨e1, e2⟩, h⟩ => ⟨c, ⟨e1, e2.1, (e2.sub s).2.1, HL.Sub.refl _⟩, h⟩
section
variable {cs : List Chunk} {H Lo : Heap} {K : Value → Heap → Prop}
theorem img_pack {A : Heap} {m : Nat} {I : Im} (h : HL.Holds (imgp A m I :: ro A :: cs) H) : HL.Holds (img A m I :: cs) H := by
  obtain ⟨c, h⟩ := Holds.ex.1 h
  obtain ⟨e, h⟩ := Holds.pure.1 h
  have h := Holds.flat.1 h
  exact img_open.2 ⟨{ c with A := A }, ⟨e.1, e.2⟩, h⟩
theorem img_unpack {m : Nat} {I : Im} (h : HL.Holds (img Lo m I :: cs) H) : ∃ A, HL.Sub Lo A ∧ HL.Holds (imgp A m I :: ro A :: cs) H := by
  obtain ⟨c, ⟨hp, hP⟩, h⟩ := img_open.1 h
  refine ⟨c.A, hP.2.2, ?_⟩
  have h2 : HL.Holds (imgC m I c ++ (ro c.A :: cs)) H := h
  exact Holds.ex.2 ⟨c, Holds.pure.2 ⟨⟨hp, hP.1, hP.2.1, HL.Sub.refl _⟩, Holds.flat.2 h2⟩⟩
theorem img_of_store {m : Nat} {I : Im} {c : Pc} {A' : Heap} (h : HL.Holds (ro A' :: (imgC m I c ++ cs)) H) (hp : List.Perm c.fs I.brk) (hP : PsIn Lo c.A c.vs I.prt) (sA : HL.Sub c.A A') : HL.Holds (img A' m I :: cs) H :=
  img_open.2 ⟨{ c with A := A' }, ⟨hp, hP.1, (hP.sub sA).2.1, HL.Sub.refl _⟩, h.down 5⟩
theorem part12_spec {m : Nat} {I : Im} {id : Int} (h : HL.Holds (img Lo m I :: cs) H) (hok : ImOk I) (k0 : (id < 1 ∨ id > I.prt.length) → K (.tuple #[zeroV.val, .bool false]) H)
    (k : ∀ p, (1 ≤ id ∧ id ≤ I.prt.length) → I.prt[(id - 1).toNat]? = some p → ∀ (u : PV) Lo' H', HL.Sub Lo Lo' → PIn Lo' u p → HL.Holds (img Lo' m I :: cs) H' → K (.tuple #[u.val, .bool true]) H') : FnH Tryz.prog 30 #[.pointer (some ⟨m, 0, none⟩), .int .i64 id] H K := by
  apply meta_Image_Part_fn
  unfold meta_Image_Part_vc
  obtain ⟨c, ⟨hp, hP⟩, h1⟩ := img_open.1 h
  have hpl := hok.parts
  have hvl : c.vs.length = I.prt.length := hP.1
  have hR : Recs eP H c.ps c.vs := Own.recs ePlen (by decide) (h1.own 3 rfl) (by omega)
  have hn := hR.len
  refine br_intro (fun w => k0 (.inl (of_decide_eq_true w))) (fun w => ⟨c.ps, h1.cell 0 rfl rfl, br_intro (fun w2 => k0 (.inr (by have := of_decide_eq_true w2; omega))) (fun w2 => ?_)⟩)
  have w := of_decide_eq_false w
  have w2 := of_decide_eq_false w2
  rw [wrap64_id (n := id - 1) (by omega) (by omega)]
  obtain ⟨q, o, v, e1, e2, e3⟩ := hR.at_ ePlen (by decide) (j := id - 1) (by omega) (by omega)
  obtain ⟨p, hpt⟩ : ∃ p, I.prt[(id - 1).toNat]? = some p := ⟨_, List.getElem?_eq_getElem (by omega)⟩
  have hv : PIn c.A v p := hP.2.1 _ _ _ e2 hpt
  have hsm := (hok.right p (List.mem_of_getElem? hpt)).small
  refine ⟨c.ps, h1.cell 0 rfl rfl, q, o, e1, by omega, by omega, v.id, e3 0 _ rfl, v.leader, e3 1 _ rfl, v.epoch, e3 2 _ rfl, v.version, e3 3 _ rfl, v.isr, e3 4 _ rfl, v.replicas, e3 5 _ rfl, v.adding, e3 6 _ rfl, v.removing, e3 7 _ rfl, v.min, e3 8 _ rfl, ?_⟩
  refine in_store (Q := fun x B' => ∃ w : PV, x = w.val ∧ PIn B' w p) (h1.pull 5 rfl) (fun B K' s kk => clone_part_spec (hv.sub s) hsm fun w H' s' hw => kk _ H' s' ⟨w, rfl, hw⟩) fun x A' H3 sA qx h3 => ?_
  obtain ⟨w, rfl, hw⟩ := qx
  exact ⟨w.id, w.leader, w.epoch, w.version, w.isr, w.replicas, w.adding, w.removing, w.min, rfl, k p (by omega) hpt w A' H3 (hP.2.2.trans sA) hw (img_of_store h3 hp hP sA)⟩
theorem parts12_spec {m : Nat} {I : Im} (h : HL.Holds (img Lo m I :: cs) H) (hok : ImOk I)
    (k : ∀ (s : Sl) Lo' H', HL.Sub Lo Lo' → PsL Lo' s I.prt → HL.Holds (img Lo' m I :: cs) H' → K (.slice s.p s.n s.c) H') : FnH Tryz.prog 14 #[.pointer (some ⟨m, 0, none⟩)] H K := by
  apply meta_Image_Parts_fn
  unfold meta_Image_Parts_vc
  obtain ⟨c, ⟨hp, hP⟩, h1⟩ := img_open.1 h
  have hpl := hok.parts
  have hvl : c.vs.length = I.prt.length := hP.1
  have hR : ∀ {H' : Heap} {ds : List Chunk}, HL.Holds (own 41 9 c.ps (c.vs.flatMap eP) :: ds) H' → Recs eP H' c.ps c.vs := fun {H' ds} h' => Own.recs ePlen (by decide) (h'.own 0 rfl) (by omega)
  have hn : c.ps.n = I.prt.length := by rw [(hR (h1.pull 3 rfl)).len, hvl]
  refine ⟨c.ps, h1.cell 0 rfl rfl, fun l n H' => 0 ≤ n ∧ n ≤ c.ps.n ∧ ∃ (ws : List PV) (A : Heap), HL.Sub c.A A ∧ ws.length = n.toNat ∧ (∀ (i : Nat) (v : PV) (p : Part), ws[i]? = some v → I.prt[i]? = some p → PIn A v p) ∧ HL.Holds (own 41 9 l (ws.flatMap eP) :: ro A :: (imgC m I c ++ cs)) H', fun _ n _ => (c.ps.n - n).toNat,
    ⟨Int.le_refl _, by omega, [], c.A, HL.Sub.refl _, rfl, fun i v p h => by simp at h, (h1.pull 5 rfl).own_nil 41 9⟩, ?_⟩
  rintro l n H1 ⟨n0, n1, ws, A, sA, hwl, hw, h2⟩
  have hlR : Recs eP H1 l ws := Own.recs ePlen (by decide) (h2.own 0 rfl) (by omega)
  have hln := hlR.len
  refine br_intro (fun y => ?_) (fun y => ?_)
  · have y := of_decide_eq_true y
    obtain ⟨q, o, v, e1, e2, e3⟩ := (hR (h2.pull 5 rfl)).at_ ePlen (by decide) n0 y
    obtain ⟨p, hpt⟩ : ∃ p, I.prt[n.toNat]? = some p := ⟨_, List.getElem?_eq_getElem (by omega)⟩
    have hv : PIn A v p := (hP.2.1 _ _ _ e2 hpt).sub sA
    have hsm := (hok.right p (List.mem_of_getElem? hpt)).small
    refine ⟨q, o, e1, n0, y, v.id, e3 0 _ rfl, v.leader, e3 1 _ rfl, v.epoch, e3 2 _ rfl, v.version, e3 3 _ rfl, v.isr, e3 4 _ rfl, v.replicas, e3 5 _ rfl, v.adding, e3 6 _ rfl, v.removing, e3 7 _ rfl, v.min, e3 8 _ rfl, ?_⟩
    refine in_store (Q := fun x B' => ∃ w : PV, x = w.val ∧ PIn B' w p) h2.swap (fun B K' s kk => clone_part_spec (hv.sub s) hsm fun w H' s' hw => kk _ H' s' ⟨w, rfl, hw⟩) fun x A' H3 sA' qx h3 => ?_
    obtain ⟨w, rfl, hw'⟩ := qx
    refine ⟨w.id, w.leader, w.epoch, w.version, w.isr, w.replicas, w.adding, w.removing, w.min, rfl, ?_⟩
    rw [wrap64_id (n := n + 1) (by omega) (by omega)]
    refine Holds.push okPart h3.swap (xs := eP w) (m := 1) rfl rfl (by omega) fun l2 H4 h4 n4 => ⟨l2, rfl, rfl, ⟨by omega, by omega, ws ++ [w], A', sA.trans sA', by rw [List.length_append]; show ws.length + 1 = _; omega, fun i v p g1 g2 => ?_, ?_⟩, by dsimp only; omega⟩
    · by_cases e : i < ws.length
      · rw [List.getElem?_append_left e] at g1
        exact (hw i v p g1 g2).sub sA'
      · have hi : i = n.toNat := by
          have := (List.getElem?_eq_some_iff.1 g1).1
          rw [List.length_append] at this
          have h1' : ([w] : List PV).length = 1 := rfl
          omega
        rw [List.getElem?_append_right (by omega), hi, hwl, Nat.sub_self] at g1
        have g1 : w = v := by simpa using g1
        rw [hi, hpt] at g2
        cases g2
        rw [← g1]; exact hw'
    · have ef : ∀ w : PV, ws.flatMap eP ++ eP w = (ws ++ [w]).flatMap eP := fun w => by simp
      rw [ef] at h4
      exact h4
  · have y := of_decide_eq_false y
    obtain ⟨A2, sA2, hO, h3⟩ := into_store h2 Own.mono
    exact k l A2 H1 (hP.2.2.trans (sA.trans sA2)) ⟨ws, Own.recs ePlen (by decide) hO (by omega), by omega, fun i v p g1 g2 => (hw i v p g1 g2).sub sA2⟩ (img_of_store h3 hp hP (sA.trans sA2))
theorem life_spec {m i : Nat} {I : Im} {id : Int} (h : HL.Holds cs H) (ei : cs[i]? = some (img Lo m I)) (hok : ImOk I) (k : K (.tuple #[.int .i64 (brkOf I.brk id).1, .bool (lookL I.brk id).isSome]) H) : FnH Tryz.prog 63 #[.pointer (some ⟨m, 0, none⟩), .int .i64 id] H K := by
  apply meta_Image_Life_fn
  unfold meta_Image_Life_vc
  obtain ⟨c, ⟨hp, -⟩, hh⟩ := h.read i ei img_mono
  exact ⟨_, hh.cell 0 rfl rfl, look12b hok hp (hh.map 1 rfl) ⟨_, _, _, rfl, k⟩⟩
end
end Go.Proofs.YtmofinghoacobaaGreatDoor
namespace Go.Proofs.YtmofinghoacobaaGreatDoor
open Go Go.HL
set_option maxHeartbeats 3200000
set_option maxRecDepth 100000
def rM (k a b c : Int) : Mt := ⟨k, a, b, c, 0, ⟨#[116]⟩, ⟨#[]⟩, []⟩
def imS (l : List Mt) : Im := l.foldl (fun I r => (applyI I r).1) newI
def sL : List Mt := [rM 1 1 1 0, rM 3 1 1 0, rM 1 2 1 0, rM 3 2 1 0, rM 1 3 1 0, rM 3 3 1 0, rM 4 2 2 1, rM 2 1 1 0, rM 1 1 1 0, rM 4 1 1 1, rM 8 0 0 0, rM 8 1 0 0]
abbrev sI (n : Nat) : Im := imS (sL.take n)
theorem body_app (I : Im) (r : Mt) : (bodyI I r).1.app = I.app := by
  unfold bodyI
  split
  · unfold registerI
    split
    · rfl
    split
    · rfl
    · show (regI I r.a).app = _
      unfold regI
      split <;> rfl
  split
  · unfold turnI
    split
    · rfl
    split
    · rfl
    split
    · rfl
    split
    · rfl
    split <;> rfl
  split
  · unfold topicI
    split
    · rfl
    split
    · rfl
    split <;> rfl
  split
  · unfold partI
    split
    · rfl
    split <;> rfl
  split
  · unfold pidI
    split
    · rfl
    split
    · rfl
    split
    · split <;> rfl
    split <;> rfl
  · rfl
theorem apply_app (I : Im) (r : Mt) : (applyI I r).1.app = I.app + 1 := body_app _ r
section
variable {cs : List Chunk} {H Lo : Heap} {K : Value → Heap → Prop}
theorem rec_spec {k a b c : Int} (kk : K ((rM k a b c).val ⟨none, 0, 0⟩) H) : FnH Tryz.prog 13 #[.int .i64 k, .int .i64 a, .int .i64 b, .int .i64 c] H K := by
  apply logboomlaw12_rec_fn
  exact kk
theorem step12 {m : Nat} {I J : Im} {r : Mt} {a e : Int} (h : HL.Holds (img Lo m I :: cs) H) (hr : ImR I) (ha : 0 ≤ I.app ∧ I.app ≤ 9223372036854775806) (f : applyI I r = (J, a, e)) (hl : r.list = []) (k : ∀ H', ImR J → HL.Holds (img Lo m J :: cs) H' → K (.tuple #[.int .i64 a, .int .i64 e]) H') (hk : r.kind = 1 ∨ r.kind = 2 ∨ r.kind = 3 ∨ r.kind = 4 ∨ r.kind = 8 := by decide) :
    FnH Tryz.prog 12 #[.pointer (some ⟨m, 0, none⟩), r.val ⟨none, 0, 0⟩] H K := by
  refine apply_spec0 (r := r) (s := ⟨none, 0, 0⟩) h hr.ok hk ha fun H' h' => ?_
  have g := (apply_r hr r).1
  rw [f] at h' g ⊢
  exact k H' g h'
theorem shown12 (k : ∀ H', HL.Sub H H' → K (.bool true) H') : FnH Tryz.prog 9 #[] H K := by
  apply logboomlaw12_shown_fn
  unfold logboomlaw12_shown_vc
  refine new12_spec (Holds.whole H) fun m H1 h1 => ⟨_, rfl, br_f rfl ?_⟩
  refine ⟨fun id H' => ∃ n : Nat, id = (n : Int) + 1 ∧ n ≤ 3 ∧ ImR (sI (2 * n)) ∧ HL.Holds [img H m (sI (2 * n))] H', fun id _ => (4 - id).toNat, ⟨0, rfl, by omega, newI_r, h1⟩, ?_⟩
  rintro id H2 ⟨n, e, hn, hr, h2⟩
  refine br_intro (fun w => ?_) (fun w => ?_)
  · have w := of_decide_eq_true w
    have hc : n = 0 ∨ n = 1 ∨ n = 2 := by omega
    rcases hc with rfl | rfl | rfl
    · have hid : id = 1 := by omega
      subst hid
      have f1 : applyI (sI (2 * 0)) (rM 1 1 1 0) = (sI 1, 1, 0) := by kernel_rfl
      have f2 : applyI (sI 1) (rM 3 1 1 0) = (sI (2 * 1), 1, 0) := by kernel_rfl
      refine rec_spec ⟨_, _, _, _, _, _, _, _, rfl, step12 (r := rM 1 1 1 0) h2 hr ⟨by decide, by decide⟩ f1 rfl fun H3 r3 h3 => ⟨_, _, rfl, ?_⟩⟩
      refine rec_spec ⟨_, _, _, _, _, _, _, _, rfl, step12 (r := rM 3 1 1 0) h3 r3 ⟨by decide, by decide⟩ f2 rfl fun H4 r4 h4 => ⟨_, _, rfl, br_f rfl (br_f rfl ⟨rfl, ⟨1, rfl, by omega, r4, h4⟩, by dsimp only; rw [wrap64_id (by decide) (by decide)]; decide⟩)⟩⟩
    · have hid : id = 2 := by omega
      subst hid
      have f1 : applyI (sI (2 * 1)) (rM 1 2 1 0) = (sI 3, 2, 0) := by kernel_rfl
      have f2 : applyI (sI 3) (rM 3 2 1 0) = (sI (2 * 2), 2, 0) := by kernel_rfl
      refine rec_spec ⟨_, _, _, _, _, _, _, _, rfl, step12 (r := rM 1 2 1 0) h2 hr ⟨by decide, by decide⟩ f1 rfl fun H3 r3 h3 => ⟨_, _, rfl, ?_⟩⟩
      refine rec_spec ⟨_, _, _, _, _, _, _, _, rfl, step12 (r := rM 3 2 1 0) h3 r3 ⟨by decide, by decide⟩ f2 rfl fun H4 r4 h4 => ⟨_, _, rfl, br_f rfl (br_f rfl ⟨rfl, ⟨2, rfl, by omega, r4, h4⟩, by dsimp only; rw [wrap64_id (by decide) (by decide)]; decide⟩)⟩⟩
    · have hid : id = 3 := by omega
      subst hid
      have f1 : applyI (sI (2 * 2)) (rM 1 3 1 0) = (sI 5, 3, 0) := by kernel_rfl
      have f2 : applyI (sI 5) (rM 3 3 1 0) = (sI (2 * 3), 3, 0) := by kernel_rfl
      refine rec_spec ⟨_, _, _, _, _, _, _, _, rfl, step12 (r := rM 1 3 1 0) h2 hr ⟨by decide, by decide⟩ f1 rfl fun H3 r3 h3 => ⟨_, _, rfl, ?_⟩⟩
      refine rec_spec ⟨_, _, _, _, _, _, _, _, rfl, step12 (r := rM 3 3 1 0) h3 r3 ⟨by decide, by decide⟩ f2 rfl fun H4 r4 h4 => ⟨_, _, rfl, br_f rfl (br_f rfl ⟨rfl, ⟨3, rfl, by omega, r4, h4⟩, by dsimp only; rw [wrap64_id (by decide) (by decide)]; decide⟩)⟩⟩
  · have w := of_decide_eq_false w
    have hn3 : n = 3 := by omega
    subst hn3
    have f1 : applyI (sI (2 * 3)) (rM 4 2 2 1) = (sI 7, 1, 0) := by kernel_rfl
    refine rec_spec ⟨_, _, _, _, _, _, _, _, rfl, step12 (r := rM 4 2 2 1) h2 hr ⟨by decide, by decide⟩ f1 rfl fun H3 r3 h3 => ⟨_, _, rfl, ?_⟩⟩
    have p1 : (sI 7).prt[(2 - 1 : Int).toNat]? = some ⟨2, 2, 1, 1, [2, 3], [2, 3], [], [], 1⟩ := by kernel_rfl
    have l1 : (sI 7).prt.length = 2 := by kernel_rfl
    refine part12_spec (id := 2) h3 r3.ok (fun e => by omega) fun p _ hp u Lo1 H4 s4 hu h4 => ?_
    rw [p1] at hp
    cases hp
    refine ⟨u.id, u.leader, u.epoch, u.version, u.isr, u.replicas, u.adding, u.removing, u.min, true, rfl, ?_⟩
    refine h4.new fun q1 H5 h5 => ?_
    have i1 : Ints H5 ⟨some ⟨q1, 0, none⟩, 2, 2⟩ [2, 3] := Holds.litInts (l := [2, 3]) h5 (by show (2 : Nat) ≤ _; decide)
    have hlo : HL.Sub Lo1 H5 := img_low (h5.read 1 rfl img_mono)
    have j1 : Ints H5 u.replicas [2, 3] := hu.replicas.sub hlo
    refine sameList_spec (s := u.replicas) (t := ⟨some ⟨q1, 0, none⟩, 2, 2⟩) (l := [2, 3]) (m := [2, 3]) j1 i1 ⟨_, rfl, ?_⟩
    have e1 : u.leader = 2 := hu.leader
    rw [e1]
    refine br_f rfl ?_
    refine br_f rfl ?_
    refine br_f rfl ?_
    refine br_f (by decide) ?_
    refine br_f rfl ?_
    have f2 : applyI (sI 7) (rM 2 1 1 0) = (sI 8, 1, 0) := by kernel_rfl
    refine rec_spec ⟨_, _, _, _, _, _, _, _, rfl, step12 (r := rM 2 1 1 0) h5.tail r3 ⟨by decide, by decide⟩ f2 rfl fun H6 r6 h6 => ⟨_, _, rfl, ?_⟩⟩
    have p2 : (sI 8).prt[(1 - 1 : Int).toNat]? = some ⟨1, 2, 2, 2, [2], [1, 2], [], [], 1⟩ := by kernel_rfl
    have l2 : (sI 8).prt.length = 2 := by kernel_rfl
    refine part12_spec (id := 1) h6 r6.ok (fun e => by omega) fun p _ hp v Lo2 H7 s7 hv h7 => ?_
    rw [p2] at hp
    cases hp
    refine ⟨v.id, v.leader, v.epoch, v.version, v.isr, v.replicas, v.adding, v.removing, v.min, true, rfl, ?_⟩
    refine h7.new fun q2 H8 h8 => ?_
    have i2 : Ints H8 ⟨some ⟨q2, 0, none⟩, 1, 1⟩ [2] := Holds.litInts (l := [2]) h8 (by show (1 : Nat) ≤ _; decide)
    have hlo2 : HL.Sub Lo2 H8 := img_low (h8.read 1 rfl img_mono)
    have j2 : Ints H8 v.isr [2] := hv.isr.sub hlo2
    refine sameList_spec (s := v.isr) (t := ⟨some ⟨q2, 0, none⟩, 1, 1⟩) (l := [2]) (m := [2]) j2 i2 ⟨_, rfl, ?_⟩
    have f3 : applyI (sI 8) (rM 1 1 1 0) = (sI 9, 0, 13) := by kernel_rfl
    refine rec_spec ⟨_, _, _, _, _, _, _, _, rfl, step12 (r := rM 1 1 1 0) h8.tail r6 ⟨by decide, by decide⟩ f3 rfl fun H9 r9 h9 => ⟨_, _, rfl, ?_⟩⟩
    have f4 : applyI (sI 9) (rM 4 1 1 1) = (sI 10, 0, 9) := by kernel_rfl
    refine rec_spec ⟨_, _, _, _, _, _, _, _, rfl, step12 (r := rM 4 1 1 1) h9 r9 ⟨by decide, by decide⟩ f4 rfl fun H10 r10 h10 => ⟨_, _, rfl, ?_⟩⟩
    have f5 : applyI (sI 10) (rM 8 0 0 0) = (sI 11, 1, 0) := by kernel_rfl
    refine rec_spec ⟨_, _, _, _, _, _, _, _, rfl, step12 (r := rM 8 0 0 0) h10 r10 ⟨by decide, by decide⟩ f5 rfl fun H11 r11 h11 => ⟨_, _, rfl, ?_⟩⟩
    have f6 : applyI (sI 11) (rM 8 1 0 0) = (sI 12, 1, 0) := by kernel_rfl
    refine rec_spec ⟨_, _, _, _, _, _, _, _, rfl, step12 (r := rM 8 1 0 0) h11 r11 ⟨by decide, by decide⟩ f6 rfl fun H12 r12 h12 => ⟨_, _, rfl, ?_⟩⟩
    have e2 : v.leader = 2 := hv.leader
    have e3 : v.epoch = 2 := hv.epoch
    have e4 : v.version = 2 := hv.version
    rw [e2, e3, e4]
    have ed : decide (([2] : List Int) = [2]) = true := by decide
    rw [ed]
    refine br_t rfl (br_t rfl (br_t rfl (br_t rfl (br_t rfl (br_t rfl (br_t rfl (br_t rfl (br_t rfl (br_t rfl (br_t rfl (br_t rfl ?_)))))))))))
    refine applied_spec (i := 0) h12 rfl ⟨_, rfl, ?_⟩
    exact k H12 ((s4.trans s7).trans (img_low (h12.read 0 rfl img_mono)))
end
end Go.Proofs.YtmofinghoacobaaGreatDoor
namespace Go.Proofs.YtmofinghoacobaaGreatDoor
open Go Go.HL
abbrev Mr := Mt × Sl
abbrev eM : Mr → List Value := fun r => [.int .i64 r.1.kind, .int .i64 r.1.a, .int .i64 r.1.b, .int .i64 r.1.c, .int .i64 r.1.d, .string r.1.name, .string r.1.text, .slice r.2.p r.2.n r.2.c]
theorem eMlen : ∀ a, (eM a).length = 8 := fun _ => rfl
structure MtOk (H : Heap) (r : Mr) : Prop where
  list : Ints H r.2 r.1.list
  kind : i64B r.1.kind
  a : i64B r.1.a
  b : i64B r.1.b
  c : i64B r.1.c
  d : i64B r.1.d
  name : r.1.name.size ≤ 9223372036854775807
  ints : ∀ x ∈ r.1.list, i64B x
theorem MtOk.sub {H H' : Heap} {r : Mr} (h : MtOk H r) (s : HL.Sub H H') : MtOk H' r := ⟨h.list.sub s, h.kind, h.a, h.b, h.c, h.d, h.name, h.ints⟩
structure Script (H : Heap) (s : Sl) (l : List Mr) : Prop where
  recs : Recs eM H s l
  ok : ∀ r ∈ l, MtOk H r
theorem Script.sub {H H' : Heap} {s : Sl} {l : List Mr} (h : Script H s l) (hs : HL.Sub H H') : Script H' s l := ⟨Recs.mono _ _ hs h.recs, fun r hr => (h.ok r hr).sub hs⟩
theorem Script.at_ {H : Heap} {s : Sl} {l : List Mr} (h : Script H s l) {i : Int} (h0 : 0 ≤ i) (h1 : i < s.n) : ∃ (q o : Nat) (r : Mr), s.p = some ⟨q, o, none⟩ ∧ l[i.toNat]? = some r ∧ MtOk H r ∧ (0 ≤ i) ∧ (i < (s.n : Int)) ∧ ∀ (f : Nat) (x : Value), (eM r)[f]? = some x → cellH H ⟨q, o + i.toNat * 8 + f, none⟩ = some x := by
  obtain ⟨q, o, r, e1, e2, e3⟩ := h.recs.at_ eMlen (by decide) h0 h1
  exact ⟨q, o, r, e1, e2, h.ok r (List.mem_of_getElem? e2), h0, h1, fun f x hx => e3 f x hx⟩
end Go.Proofs.YtmofinghoacobaaGreatDoor
namespace Go.Proofs.YtmofinghoacobaaGreatDoor
open Go Go.HL
set_option maxHeartbeats 3200000
set_option maxRecDepth 100000
theorem strN_size (l : List Nat) : (strN l).size = l.length := by simp [strN, ByteArray.size]
theorem strN_app {a b : List Nat} (ha : ∀ x ∈ a, x < 256) (hb : ∀ x ∈ b, x < 256) : strN a ++ strN b = strN (a ++ b) :=
  nb_inj (by
    rw [nb_append, nb_str ha, nb_str hb, nb_str]
    intro x hx
    exact (List.mem_append.1 hx).elim (ha x) (hb x))
theorem flat_le {α : Type} {f : α → List Nat} {k : Nat} : ∀ {l : List α}, (∀ a ∈ l, (f a).length ≤ k) → (l.flatMap f).length ≤ l.length * k
  | [], _ => by simp
  | a :: l, h => by
    have h1 := h a (List.mem_cons_self ..)
    have h2 := flat_le (l := l) (fun x hx => h x (List.mem_cons_of_mem _ hx))
    simp only [List.flatMap_cons, List.length_append, List.length_cons, Nat.add_mul, Nat.one_mul]
    omega
theorem flat_bytes {α : Type} {f : α → List Nat} {l : List α} (h : ∀ a ∈ l, ∀ b ∈ f a, b < 256) : ∀ b ∈ l.flatMap f, b < 256 := fun b hb => by
  obtain ⟨a, ha, hb⟩ := List.mem_flatMap.1 hb
  exact h a ha b hb
theorem encL_len (L : List Int) : (encL L).length ≤ L.length * 10 := flat_le fun a _ => encN_len a
theorem lstB_len (l : List Int) : (lstB l).length ≤ 10 + l.length * 10 := by
  unfold lstB
  rw [List.length_append]
  have := encN_len (l.length : Int)
  have := encL_len l
  omega
theorem lstB_bytes (l : List Int) : ∀ b ∈ lstB l, b < 256 := fun b hb => (List.mem_append.1 hb).elim (encN_bytes _ b) (encL_bytes _ b)
theorem brkB_len (x : Int × (Int × Bool)) : (brkB x).length ≤ 30 := encL_len _
theorem brkB_bytes (x : Int × (Int × Bool)) : ∀ b ∈ brkB x, b < 256 := encL_bytes _
theorem topB_len {t : ByteArray × Int × Int} (h : t.1.size ≤ 32) : (topB t).length ≤ 62 := by
  unfold topB
  have := encN_len (t.1.size : Int)
  have := encL_len [t.2.1, t.2.2]
  have := nb_len t.1
  simp only [List.length_append, List.length_cons, List.length_nil] at *
  omega
theorem topB_bytes (t : ByteArray × Int × Int) : ∀ b ∈ topB t, b < 256 := fun b hb => by
  unfold topB at hb
  rcases List.mem_append.1 hb with q | q
  · exact (List.mem_append.1 q).elim (encN_bytes _ b) (nb_byte _ b)
  · exact encL_bytes _ b q
theorem prtB_len {p : Part} (h : RightOf p) : (prtB p).length ≤ 360 := by
  unfold prtB
  have := encL_len [p.leader, p.epoch, p.version, p.min]
  have := lstB_len p.isr
  have := lstB_len p.replicas
  have := lstB_len p.adding
  have := lstB_len p.removing
  have := ids_len h.isr
  have := ids_len h.replicas
  have := ids_len h.adding
  have := ids_len h.removing
  simp only [List.length_append, List.length_cons, List.length_nil] at *
  omega
theorem prtB_bytes (p : Part) : ∀ b ∈ prtB p, b < 256 := fun b hb => by
  unfold prtB at hb
  rcases List.mem_append.1 hb with q | q
  · rcases List.mem_append.1 q with q | q
    · rcases List.mem_append.1 q with q | q
      · exact (List.mem_append.1 q).elim (encL_bytes _ b) (lstB_bytes _ b)
      · exact lstB_bytes _ b q
    · exact lstB_bytes _ b q
  · exact lstB_bytes _ b q
theorem named_size {s : ByteArray} (h : tNamed s = true) : s.size ≤ 32 := by
  unfold tNamed at h
  simp only [Bool.and_eq_true, decide_eq_true_eq] at h
  exact h.1.2
theorem brk_len {I : Im} (h : ImOk I) : I.brk.length ≤ 7 := by
  have := ids_len (l := I.brk.map Prod.fst) (ids_iff.2 ⟨brk_nodup h, fun x hx => by
    obtain ⟨y, hy, rfl⟩ := List.mem_map.1 hx
    have := h.ids y hy
    omega⟩)
  rwa [List.length_map] at this
theorem take_flat_step {α : Type} {f : α → List Nat} {l : List α} {n : Int} {a : α} (h0 : 0 ≤ n) (h : l[n.toNat]? = some a) : (l.take (n + 1).toNat).flatMap f = (l.take n.toNat).flatMap f ++ f a := by
  rw [take_step h0 h]; simp
section
variable {cs : List Chunk} {H Lo : Heap} {K : Value → Heap → Prop}
theorem ints39 {s : Sl} {l : List Int} (hl : Ints H s l) (hw : ∀ x ∈ l, i64B x) (hb : l.length ≤ 100000) (k : ∀ H', HL.Sub H H' → K (.string (strN (encL l))) H') : FnH Tryz.prog 39 #[.slice s.p s.n s.c] H K := by
  apply meta_ints_fn
  unfold meta_ints_vc
  have hn := hl.len
  refine ⟨fun t n H' => HL.Sub H H' ∧ 0 ≤ n ∧ n ≤ s.n ∧ t = strN (encL (l.take n.toNat)), fun _ n _ => (s.n - n).toNat, ⟨HL.Sub.refl _, Int.le_refl _, by omega, rfl⟩, ?_⟩
  rintro t n H1 ⟨s1, n0, n1, rfl⟩
  refine br_intro (fun w => ?_) (fun w => ?_)
  · have w := of_decide_eq_true w
    obtain ⟨q, o, g1, g2, g3, g4⟩ := (hl.sub s1).at_ n0 w
    have hx := hw _ (getD_mem (l := l) n0 (by omega))
    refine ⟨q, o, g1, g2, g3, _, g4, int_spec hx fun H2 s2 => ⟨_, rfl, ?_⟩⟩
    rw [wrap64_id (n := n + 1) (by omega) (by omega)]
    have h1 := encL_len (l.take n.toNat)
    have h2 := encN_len (l.getD n.toNat 0)
    have h3 : (l.take n.toNat).length ≤ l.length := by rw [List.length_take]; omega
    refine ⟨by rw [strN_size, strN_size]; omega, rfl, ⟨s1.trans s2, by omega, by omega, ?_⟩, by dsimp only; omega⟩
    rw [strN_app (encL_bytes _) (encN_bytes _), take_next (d := 0) n0 (by omega), encL_app]
    simp [encL]
  · have w := of_decide_eq_false w
    have e : l.take n.toNat = l := List.take_of_length_le (by omega)
    rw [e]
    exact k H1 s1
theorem list42 {s : Sl} {l : List Int} (hl : Ints H s l) (hw : ∀ x ∈ l, i64B x) (hb : l.length ≤ 100000) (k : ∀ H', HL.Sub H H' → K (.string (strN (lstB l))) H') : FnH Tryz.prog 42 #[.slice s.p s.n s.c] H K := by
  apply meta_list_fn
  unfold meta_list_vc
  have hn := hl.len
  refine int_spec (n := (s.n : Int)) ⟨by omega, by omega⟩ fun H1 s1 => ⟨_, rfl, ?_⟩
  have en : encN ((s.n : Nat) : Int) = encN (l.length : Int) := by rw [hn]
  rw [en]
  refine ints39 (hl.sub s1) hw hb fun H2 s2 => ⟨_, rfl, ?_, ?_⟩
  · rw [strN_size, strN_size]
    have := encN_len (l.length : Int)
    have := encL_len l
    omega
  · rw [strN_app (encN_bytes _) (encL_bytes _)]
    exact k H2 (s1.trans s2)
theorem four43 {c : Nat} (hc : c < 4294967296) (k : ∀ H', HL.Sub H H' → K (.string (strN (fourN c))) H') : FnH Tryz.prog 43 #[.int .i64 (c : Int)] H K := by
  apply meta_four_fn
  unfold meta_four_vc
  have e1 : IntKind.wrap .u8 (shrI .i64 (c : Int) 24) = ((c / 16777216 % 256 : Nat) : Int) := by
    show IntKind.wrap .u8 (shrI .i64 (c : Int) ((24 : Nat) : Int)) = _
    rw [shr_n c 24 (by decide), wrap_u8]; rfl
  have e2 : IntKind.wrap .u8 (shrI .i64 (c : Int) 16) = ((c / 65536 % 256 : Nat) : Int) := by
    show IntKind.wrap .u8 (shrI .i64 (c : Int) ((16 : Nat) : Int)) = _
    rw [shr_n c 16 (by decide), wrap_u8]; rfl
  have e3 : IntKind.wrap .u8 (shrI .i64 (c : Int) 8) = ((c / 256 % 256 : Nat) : Int) := by
    show IntKind.wrap .u8 (shrI .i64 (c : Int) ((8 : Nat) : Int)) = _
    rw [shr_n c 8 (by decide), wrap_u8]; rfl
  have e4 : IntKind.wrap .u8 (c : Int) = ((c % 256 : Nat) : Int) := by rw [wrap_u8]; rfl
  rw [e1, e2, e3, e4]
  refine (Holds.whole H).newS fun q H1 s1 h1 => ?_
  have ho : Own H1 5 1 ⟨some ⟨q, 0, none⟩, 4, 4⟩ ((fourN c).map fun b : Nat => Value.int .u8 (b : Int)) := ⟨rfl, Nat.le_refl _, .inr ⟨q, _, rfl, h1.get 0 rfl, rfl, fun i hi => by
    have hi : i < 4 := hi
    match i, hi with
    | 0, _ => rfl
    | 1, _ => rfl
    | 2, _ => rfl
    | 3, _ => rfl⟩⟩
  exact toStr (r := ⟨some ⟨q, 0, none⟩, 4, 4⟩) ho (fourN_bytes c) ⟨_, rfl, k H1 s1⟩
end
end Go.Proofs.YtmofinghoacobaaGreatDoor
namespace Go.Proofs.YtmofinghoacobaaGreatDoor
open Go Go.HL
set_option maxHeartbeats 3200000
set_option maxRecDepth 100000
theorem lead_range {p : Part} (h : RightOf p) : 0 ≤ p.leader ∧ p.leader ≤ 7 := by
  rcases h.leader with q | q
  · omega
  · have := (ids_iff.1 h.isr).2 _ q; omega
theorem bytes_app {a b : List Nat} (ha : ∀ x ∈ a, x < 256) (hb : ∀ x ∈ b, x < 256) : ∀ x ∈ a ++ b, x < 256 := fun x hx => (List.mem_append.1 hx).elim (ha x) (hb x)
section
variable {cs : List Chunk} {H Lo : Heap} {K : Value → Heap → Prop}
theorem lits39 {q n : Nat} {l : List Int} (h : HL.Holds (blk q (.cells (l.map (Value.int .i64)).toArray 3 (0, 0)) :: cs) H) (hn : l.length = n) (hw : ∀ x ∈ l, i64B x) (hb : l.length ≤ 1000) (k : ∀ H', HL.Sub H H' → K (.string (strN (encL l))) H') : FnH Tryz.prog 39 #[.slice (some ⟨q, 0, none⟩) n n] H K := by
  subst hn
  exact ints39 (s := ⟨some ⟨q, 0, none⟩, l.length, l.length⟩) (Holds.litInts h (by omega)) hw (by omega) k
theorem keep_spec {m i : Nat} {I : Im} (h : HL.Holds cs H) (ei : cs[i]? = some (img Lo m I)) (hok : ImOk I) (ha : 0 ≤ I.app ∧ I.app ≤ 9223372036854775807) (k : ∀ H', HL.Sub H H' → K (.string (strN (keepB I))) H') : FnH Tryz.prog 18 #[.pointer (some ⟨m, 0, none⟩)] H K := by
  apply meta_Image_Keep_fn
  unfold meta_Image_Keep_vc
  obtain ⟨c, ⟨hp, hP⟩, hh⟩ := h.read i ei img_mono
  have hbl := brk_len hok
  have htl := hok.tops
  have hpl := hok.parts
  have hdl := hok.prds
  have hvl : c.vs.length = I.prt.length := hP.1
  have hml : (bmap c.fs).length = I.brk.length := by simp [hp.length_eq]
  have hT : Recs eT H c.ts I.top := Own.recs eTlen (by decide) (hh.own 2 rfl) (by omega)
  have hR : Recs eP H c.ps c.vs := Own.recs ePlen (by decide) (hh.own 3 rfl) (by omega)
  have hD : Ints H c.rs I.prd := own_ints (hh.own 4 rfl) (by omega)
  have hA : HL.Sub c.A H := hh.sub 5 rfl
  have htn := hT.len
  have hrn := hR.len
  have bB : ∀ n : Nat, ((I.brk.take n).flatMap brkB).length ≤ 210 := fun n => by
    have := flat_le (f := brkB) (k := 30) (l := I.brk.take n) fun a _ => brkB_len a
    have e : (I.brk.take n).length ≤ 7 := by rw [List.length_take]; omega
    omega
  have bT : ∀ n : Nat, ((I.top.take n).flatMap topB).length ≤ 992 := fun n => by
    have := flat_le (f := topB) (k := 62) (l := I.top.take n) fun a h => topB_len (named_size (hok.topv a (List.mem_of_mem_take h)).1)
    have e : (I.top.take n).length ≤ 16 := by rw [List.length_take]; omega
    omega
  have bP : ∀ n : Nat, ((I.prt.take n).flatMap prtB).length ≤ 5760 := fun n => by
    have := flat_le (f := prtB) (k := 360) (l := I.prt.take n) fun a h => prtB_len (hok.right a (List.mem_of_mem_take h))
    have e : (I.prt.take n).length ≤ 16 := by rw [List.length_take]; omega
    omega
  have yB : ∀ n : Nat, ∀ b ∈ (I.brk.take n).flatMap brkB, b < 256 := fun n => flat_bytes fun a _ => brkB_bytes a
  have yT : ∀ n : Nat, ∀ b ∈ (I.top.take n).flatMap topB, b < 256 := fun n => flat_bytes fun a _ => topB_bytes a
  have yP : ∀ n : Nat, ∀ b ∈ (I.prt.take n).flatMap prtB, b < 256 := fun n => flat_bytes fun a _ => prtB_bytes a
  refine ⟨_, hh.cell 0 rfl rfl, _, hh.cell 0 rfl rfl, hh.lenM 1 rfl ?_⟩
  rw [hml]
  refine (Holds.whole H).newS fun q1 H1 s1 h1 => ⟨s1, ?_⟩
  refine lits39 (l := [I.app, I.brk.length]) h1 rfl (fun x hx => ?_) (by show (2 : Nat) ≤ _; decide) fun H2 s2 => ⟨_, rfl, s1.trans s2, ?_⟩
  · simp only [List.mem_cons, List.not_mem_nil, or_false] at hx
    rcases hx with rfl | rfl
    · exact ⟨by omega, by omega⟩
    · exact ⟨by omega, by omega⟩
  have s2 := s1.trans s2
  clear s1 h1
  refine ids_spec12 (h.up s2) ei hok fun u H3 s3 h3 => ⟨u, rfl, ?_⟩
  have s3 := s2.trans s3
  clear s2
  have hu : Ints H3 u (I.brk.map Prod.fst) := own_ints (h3.own 0 rfl) (by rw [List.length_map]; omega)
  have hun := hu.len
  rw [List.length_map] at hun
  have b0 : (encL [I.app, (I.brk.length : Int)]).length ≤ 20 := encL_len _
  obtain ⟨A1, eA1⟩ : ∃ A1, A1 = encL [I.app, (I.brk.length : Int)] ++ I.brk.flatMap brkB := ⟨_, rfl⟩
  refine ⟨fun t n H' => HL.Sub H3 H' ∧ 0 ≤ n ∧ n ≤ u.n ∧ t = strN (encL [I.app, (I.brk.length : Int)] ++ (I.brk.take n.toNat).flatMap brkB), fun _ n _ => (u.n - n).toNat, ⟨HL.Sub.refl _, Int.le_refl _, by omega, by simp⟩, ?_⟩
  rintro t n H4 ⟨s4, n0, n1, rfl⟩
  have s4' := s3.trans s4
  refine br_intro (fun w => ?_) (fun w => ?_)
  · have w := of_decide_eq_true w
    obtain ⟨q, o, g1, g2, g3, g4⟩ := (hu.sub s4).at_ n0 w
    obtain ⟨x, hx⟩ : ∃ x, I.brk[n.toNat]? = some x := ⟨_, List.getElem?_eq_getElem (by omega)⟩
    have hid : (I.brk.map Prod.fst).getD n.toNat 0 = x.1 := by rw [List.getD_eq_getElem?_getD, List.getElem?_map, hx]; rfl
    have hbx : brkOf I.brk x.1 = x.2 := brkOf_mem (nodup_brk hok) (List.mem_of_getElem? hx)
    have hxr := hok.ids x (List.mem_of_getElem? hx)
    refine ⟨q, o, g1, g2, g3, _, g4, _, (hh.up s4').cell 0 rfl rfl, look12 hok hp ((hh.up s4').map 1 rfl) ?_⟩
    rw [hid, hbx, wrap64_id (n := n + 1) (by omega) (by omega)]
    have fin : ∀ H5, HL.Sub H4 H5 → x.2.2 = true ∨ x.2.2 = false → strN (encL [I.app, (I.brk.length : Int)] ++ (I.brk.take n.toNat).flatMap brkB) ++ strN (brkB x) = strN (encL [I.app, (I.brk.length : Int)] ++ (I.brk.take (n + 1).toNat).flatMap brkB) := fun H5 _ _ => by
      rw [strN_app (bytes_app (encL_bytes _) (yB _)) (brkB_bytes x), take_flat_step n0 hx, List.append_assoc]
    have hsz : (strN (encL [I.app, (I.brk.length : Int)] ++ (I.brk.take n.toNat).flatMap brkB)).size + (strN (brkB x)).size < 9223372036854775808 := by
      rw [strN_size, strN_size, List.length_append]
      have := bB n.toNat
      have := brkB_len x
      omega
    have hw : ∀ v : Int, v = 0 ∨ v = 1 → ∀ y ∈ [x.1, x.2.1, v], i64B y := fun v hv y hy => by
      simp only [List.mem_cons, List.not_mem_nil, or_false] at hy
      rcases hy with rfl | rfl | rfl
      · exact ⟨by omega, by omega⟩
      · exact ⟨by omega, by omega⟩
      · exact ⟨by omega, by omega⟩
    refine ⟨_, _, rfl, br_intro (fun z => ?_) (fun z => ?_)⟩
    · have ez : brkB x = encL [x.1, x.2.1, 1] := by unfold brkB; rw [if_pos z]
      refine (Holds.whole H4).newS fun q3 H5 s5 h5 => lits39 (l := [x.1, x.2.1, 1]) h5 rfl (hw 1 (.inr rfl)) (by show (3 : Nat) ≤ _; decide) fun H6 s6 => ⟨_, rfl, ?_⟩
      rw [← ez]
      exact ⟨hsz, rfl, ⟨s4.trans (s5.trans s6), by omega, by omega, fin H6 (s5.trans s6) (.inl z)⟩, by dsimp only; omega⟩
    · have ez : brkB x = encL [x.1, x.2.1, 0] := by unfold brkB; rw [if_neg (by rw [z]; decide)]
      refine (Holds.whole H4).newS fun q3 H5 s5 h5 => lits39 (l := [x.1, x.2.1, 0]) h5 rfl (hw 0 (.inl rfl)) (by show (3 : Nat) ≤ _; decide) fun H6 s6 => ⟨_, rfl, ?_⟩
      rw [← ez]
      exact ⟨hsz, rfl, ⟨s4.trans (s5.trans s6), by omega, by omega, fin H6 (s5.trans s6) (.inr z)⟩, by dsimp only; omega⟩
  have w := of_decide_eq_false w
  have et : I.brk.take n.toNat = I.brk := List.take_of_length_le (by omega)
  rw [et, ← eA1]
  have bA1 : A1.length ≤ 230 := by
    have := bB I.brk.length
    rw [List.take_length] at this
    rw [eA1, List.length_append]; omega
  have yA1 : ∀ b ∈ A1, b < 256 := by
    have := yB I.brk.length
    rw [List.take_length] at this
    rw [eA1]; exact bytes_app (encL_bytes _) this
  refine ⟨c.ts, (hh.up s4').cell 0 rfl rfl, ?_⟩
  rw [htn]
  refine (Holds.whole H4).newS fun q5 H5 s5 h5 => lits39 (l := [(I.top.length : Int)]) h5 rfl (fun x hx => ?_) (by show (1 : Nat) ≤ _; decide) fun H6 s6 => ⟨_, rfl, ?_, ?_⟩
  · rw [List.mem_singleton.1 hx]; exact ⟨by omega, by omega⟩
  · rw [strN_size, strN_size]
    have := encL_len [(I.top.length : Int)]
    have e1 : ([(I.top.length : Int)] : List Int).length = 1 := rfl
    omega
  have s6' := s4'.trans (s5.trans s6)
  clear w s4 s3 h3 hu
  rw [strN_app yA1 (encL_bytes _)]
  have b1 : (encL [(I.top.length : Int)]).length ≤ 10 := encL_len _
  refine ⟨c.ts, (hh.up s6').cell 0 rfl rfl, ?_⟩
  obtain ⟨A3, eA3⟩ : ∃ A3, A3 = A1 ++ encL [(I.top.length : Int)] ++ I.top.flatMap topB := ⟨_, rfl⟩
  refine ⟨fun t n H' => HL.Sub H H' ∧ 0 ≤ n ∧ n ≤ c.ts.n ∧ t = strN (A1 ++ encL [(I.top.length : Int)] ++ (I.top.take n.toNat).flatMap topB), fun _ n _ => (c.ts.n - n).toNat, ⟨s6', Int.le_refl _, by omega, by simp⟩, ?_⟩
  rintro t n H7 ⟨s7, n0, n1, rfl⟩
  rw [htn] at n1 ⊢
  refine br_intro (fun w => ?_) (fun w => ?_)
  · have w := of_decide_eq_true w
    obtain ⟨q, o, x, e1, e2, e3⟩ := (Recs.mono _ _ s7 hT).at_ eTlen (by decide) n0 (by omega)
    obtain ⟨x1, x2, x3, x4, x5⟩ := hok.topv x (List.mem_of_getElem? e2)
    have xs := named_size x1
    have hw : ∀ y ∈ [x.2.1, x.2.2], i64B y := fun y hy => by
      simp only [List.mem_cons, List.not_mem_nil, or_false] at hy
      rcases hy with rfl | rfl
      · exact ⟨by omega, by omega⟩
      · exact ⟨by omega, by omega⟩
    have l1 := encN_len (x.1.size : Int)
    have l2 := nb_len x.1
    have l3 : (encL [x.2.1, x.2.2]).length ≤ 20 := encL_len _
    have l4 := bT n.toNat
    have j1 : strN (encN x.1.size) ++ x.1 = strN (encN x.1.size ++ nb x.1) := by
      rw [← strN_app (encN_bytes _) (nb_byte _), strN_nb]
    have j2 : strN (encN x.1.size ++ nb x.1) ++ strN (encL [x.2.1, x.2.2]) = strN (topB x) := strN_app (bytes_app (encN_bytes _) (nb_byte _)) (encL_bytes _)
    have j3 : strN (A1 ++ encL [(I.top.length : Int)] ++ (I.top.take n.toNat).flatMap topB) ++ strN (topB x) = strN (A1 ++ encL [(I.top.length : Int)] ++ (I.top.take (n + 1).toNat).flatMap topB) := by
      rw [strN_app (bytes_app (bytes_app yA1 (encL_bytes _)) (yT _)) (topB_bytes x), take_flat_step n0 e2]
      simp only [List.append_assoc]
    have z1 : (strN (encN x.1.size)).size + x.1.size < 9223372036854775808 := by rw [strN_size]; omega
    have z2 : (strN (encN x.1.size ++ nb x.1)).size + (strN (encL [x.2.1, x.2.2])).size < 9223372036854775808 := by rw [strN_size, strN_size, List.length_append]; omega
    have z3 : (strN (A1 ++ encL [(I.top.length : Int)] ++ (I.top.take n.toNat).flatMap topB)).size + (strN (topB x)).size < 9223372036854775808 := by
      rw [strN_size, strN_size, List.length_append, List.length_append]
      have := topB_len xs
      omega
    rw [wrap64_id (n := n + 1) (by omega) (by omega)]
    refine ⟨q, o, e1, n0, by omega, _, e3 0 _ rfl, _, e3 1 _ rfl, _, e3 2 _ rfl, ?_, ?_⟩
    · refine int_spec (n := (x.1.size : Int)) ⟨by omega, by omega⟩ fun H8 s8 => ⟨_, rfl, s8, z1, ?_⟩
      rw [j1]
      refine (Holds.whole H8).newS fun q7 H9 s9 h9 => ⟨s8.trans s9, lits39 (l := [x.2.1, x.2.2]) h9 rfl hw (by show (2 : Nat) ≤ _; decide) fun H10 s10 => ⟨_, rfl, s8.trans (s9.trans s10), z2, ?_⟩⟩
      rw [j2, j3]
      exact ⟨z3, rfl, ⟨s7.trans (s8.trans (s9.trans s10)), by omega, by omega, rfl⟩, by dsimp only; omega⟩
    · refine (Holds.whole H7).newS fun q7 H8 s8 h8 => ⟨s8, int_spec (n := (x.1.size : Int)) ⟨by omega, by omega⟩ fun H9 s9 => ⟨_, rfl, s8.trans s9, z1, ?_⟩⟩
      rw [j1]
      refine lits39 (l := [x.2.1, x.2.2]) (h8.up s9) rfl hw (by show (2 : Nat) ≤ _; decide) fun H10 s10 => ⟨_, rfl, s8.trans (s9.trans s10), z2, ?_⟩
      rw [j2, j3]
      exact ⟨z3, rfl, ⟨s7.trans (s8.trans (s9.trans s10)), by omega, by omega, rfl⟩, by dsimp only; omega⟩
  have w := of_decide_eq_false w
  have et2 : I.top.take n.toNat = I.top := List.take_of_length_le (by omega)
  rw [et2, ← eA3]
  have bA3 : A3.length ≤ 1300 := by
    have := bT I.top.length
    rw [List.take_length] at this
    rw [eA3, List.length_append, List.length_append]; omega
  have yA3 : ∀ b ∈ A3, b < 256 := by
    have := yT I.top.length
    rw [List.take_length] at this
    rw [eA3]; exact bytes_app (bytes_app yA1 (encL_bytes _)) this
  clear w
  refine ⟨c.ps, (hh.up s7).cell 0 rfl rfl, ?_⟩
  rw [hrn, hvl]
  refine (Holds.whole H7).newS fun q9 H8 s8 h8 => lits39 (l := [(I.prt.length : Int)]) h8 rfl (fun x hx => ?_) (by show (1 : Nat) ≤ _; decide) fun H9 s9 => ⟨_, rfl, ?_, ?_⟩
  · rw [List.mem_singleton.1 hx]; exact ⟨by omega, by omega⟩
  · rw [strN_size, strN_size]
    have := encL_len [(I.prt.length : Int)]
    have e1 : ([(I.prt.length : Int)] : List Int).length = 1 := rfl
    omega
  have s9' := s7.trans (s8.trans s9)
  rw [strN_app yA3 (encL_bytes _)]
  have b3 : (encL [(I.prt.length : Int)]).length ≤ 10 := encL_len _
  refine ⟨c.ps, (hh.up s9').cell 0 rfl rfl, ?_⟩
  rw [hrn, hvl]
  refine ⟨fun t n H' => HL.Sub H H' ∧ 0 ≤ n ∧ n ≤ I.prt.length ∧ t = strN (A3 ++ encL [(I.prt.length : Int)] ++ (I.prt.take n.toNat).flatMap prtB), fun _ n _ => (I.prt.length - n).toNat, ⟨s9', Int.le_refl _, by omega, by simp⟩, ?_⟩
  rintro t n H10 ⟨s10, n0, n1, rfl⟩
  refine br_intro (fun w => ?_) (fun w => ?_)
  · have w := of_decide_eq_true w
    obtain ⟨q, o, v, e1, e2, e3⟩ := (Recs.mono _ _ s10 hR).at_ ePlen (by decide) n0 (by omega)
    obtain ⟨p, hpt⟩ : ∃ p, I.prt[n.toNat]? = some p := ⟨_, List.getElem?_eq_getElem (by omega)⟩
    have hv : PIn H10 v p := ((hP.2.1 _ _ _ e2 hpt).sub hA).sub s10
    have hr := hok.right p (List.mem_of_getElem? hpt)
    have r1 := lead_range hr
    have r2 := hr.epoch; have r3 := hr.version; have r4 := hr.min
    obtain ⟨i1, i2⟩ := ids_bound hr.isr; obtain ⟨k1, k2⟩ := ids_bound hr.replicas; obtain ⟨a1, a2⟩ := ids_bound hr.adding; obtain ⟨m1, m2⟩ := ids_bound hr.removing
    have w7 : ∀ {l : List Int}, (∀ x ∈ l, 1 ≤ x ∧ x ≤ 7) → ∀ x ∈ l, i64B x := fun {l} h x hx => by have := h x hx; exact ⟨by omega, by omega⟩
    have hw : ∀ y ∈ [p.leader, p.epoch, p.version, p.min], i64B y := fun y hy => by
      simp only [List.mem_cons, List.not_mem_nil, or_false] at hy
      rcases hy with rfl | rfl | rfl | rfl
      · exact ⟨by omega, by omega⟩
      · exact ⟨by omega, by omega⟩
      · exact ⟨by omega, by omega⟩
      · exact ⟨by omega, by omega⟩
    have c1 : (encL [p.leader, p.epoch, p.version, p.min]).length ≤ 40 := encL_len _
    have c2 := lstB_len p.isr; have c3 := lstB_len p.replicas; have c4 := lstB_len p.adding; have c5 := lstB_len p.removing
    have c6 := bP n.toNat
    have c7 := prtB_len hr
    rw [wrap64_id (n := n + 1) (by omega) (by omega)]
    refine ⟨q, o, e1, n0, by omega, _, e3 0 _ rfl, _, e3 1 _ rfl, _, e3 2 _ rfl, _, e3 3 _ rfl, v.isr, e3 4 _ rfl, v.replicas, e3 5 _ rfl, v.adding, e3 6 _ rfl, v.removing, e3 7 _ rfl, _, e3 8 _ rfl, ?_⟩
    rw [hv.leader, hv.epoch, hv.version, hv.min]
    refine (Holds.whole H10).newS fun q11 H11 s11 h11 => ⟨s11, lits39 (l := [p.leader, p.epoch, p.version, p.min]) h11 rfl hw (by show (4 : Nat) ≤ _; decide) fun H12 s12 => ⟨_, rfl, s11.trans s12, ?_⟩⟩
    have t12 := s11.trans s12
    refine list42 (hv.isr.sub t12) (w7 i2) (by omega) fun H13 s13 => ⟨_, rfl, t12.trans s13, by rw [strN_size, strN_size]; omega, ?_⟩
    have t13 := t12.trans s13
    rw [strN_app (encL_bytes _) (lstB_bytes _)]
    refine list42 (hv.replicas.sub t13) (w7 k2) (by omega) fun H14 s14 => ⟨_, rfl, t13.trans s14, by rw [strN_size, strN_size, List.length_append]; omega, ?_⟩
    have t14 := t13.trans s14
    rw [strN_app (bytes_app (encL_bytes _) (lstB_bytes _)) (lstB_bytes _)]
    refine list42 (hv.adding.sub t14) (w7 a2) (by omega) fun H15 s15 => ⟨_, rfl, t14.trans s15, by rw [strN_size, strN_size, List.length_append, List.length_append]; omega, ?_⟩
    have t15 := t14.trans s15
    rw [strN_app (bytes_app (bytes_app (encL_bytes _) (lstB_bytes _)) (lstB_bytes _)) (lstB_bytes _)]
    refine list42 (hv.removing.sub t15) (w7 m2) (by omega) fun H16 s16 => ⟨_, rfl, t15.trans s16, by rw [strN_size, strN_size, List.length_append, List.length_append, List.length_append]; omega, ?_⟩
    have t16 := t15.trans s16
    rw [strN_app (bytes_app (bytes_app (bytes_app (encL_bytes _) (lstB_bytes _)) (lstB_bytes _)) (lstB_bytes _)) (lstB_bytes _)]
    have j : strN (A3 ++ encL [(I.prt.length : Int)] ++ (I.prt.take n.toNat).flatMap prtB) ++ strN (prtB p) = strN (A3 ++ encL [(I.prt.length : Int)] ++ (I.prt.take (n + 1).toNat).flatMap prtB) := by
      rw [strN_app (bytes_app (bytes_app yA3 (encL_bytes _)) (yP _)) (prtB_bytes p), take_flat_step n0 hpt]
      simp only [List.append_assoc]
    refine ⟨?_, rfl, ⟨s10.trans t16, by omega, by omega, j⟩, by dsimp only; omega⟩
    show (strN (A3 ++ encL [(I.prt.length : Int)] ++ (I.prt.take n.toNat).flatMap prtB)).size + (strN (prtB p)).size < 9223372036854775808
    rw [strN_size, strN_size, List.length_append, List.length_append]
    omega
  have w := of_decide_eq_false w
  have et3 : I.prt.take n.toNat = I.prt := List.take_of_length_le (by omega)
  rw [et3]
  have bP2 := bP I.prt.length
  have yP2 := yP I.prt.length
  rw [List.take_length] at bP2 yP2
  have yA5 : ∀ b ∈ A3 ++ encL [(I.prt.length : Int)] ++ I.prt.flatMap prtB, b < 256 := bytes_app (bytes_app yA3 (encL_bytes _)) yP2
  have ebody : bodyB I = A3 ++ encL [(I.prt.length : Int)] ++ I.prt.flatMap prtB ++ lstB I.prd := by rw [eA3, eA1]; rfl
  have b5 := lstB_len I.prd
  have ybody : ∀ b ∈ bodyB I, b < 256 := by rw [ebody]; exact bytes_app yA5 (lstB_bytes _)
  have bbody : (bodyB I).length ≤ 20000 := by rw [ebody]; simp only [List.length_append]; omega
  refine ⟨c.rs, (hh.up s10).cell 0 rfl rfl, list42 (hD.sub s10) (fun x hx => by have := hok.prd x hx; exact ⟨by omega, by omega⟩) (by omega) fun H11 s11 => ⟨_, rfl, ?_, ?_⟩⟩
  · rw [strN_size, strN_size]; simp only [List.length_append]; omega
  rw [strN_app yA5 (lstB_bytes _), ← ebody]
  refine crc_spec (by rw [strN_size]; omega) ⟨_, rfl, ?_⟩
  rw [nb_str ybody]
  refine four43 (crcN_lt _ ybody) fun H12 s12 => ⟨_, rfl, ?_, ?_⟩
  · rw [strN_size, strN_size]
    have : (fourN (crcN (bodyB I))).length = 4 := rfl
    omega
  rw [strN_app (fourN_bytes _) ybody]
  exact k H12 (s10.trans (s11.trans s12))
end
end Go.Proofs.YtmofinghoacobaaGreatDoor
namespace Go.Proofs.YtmofinghoacobaaGreatDoor
open Go Go.HL
set_option maxHeartbeats 3200000
set_option maxRecDepth 100000
abbrev strsV (l : List ByteArray) : List Value := l.map Value.string
def sortB (l : List ByteArray) : List ByteArray := ((l.map fun x => x.data.toList).mergeSort fun x y => decide (x ≤ y)).map fun x => ⟨x.toArray⟩
theorem encStr_eq (l : List ByteArray) : strsV l = (l.map fun x => x.data.toList).map Go.Proofs.encStr := by
  simp [strsV, Go.Proofs.encStr, Function.comp_def]
theorem sortB_len (l : List ByteArray) : (sortB l).length = l.length := by simp [sortB]
theorem sortB_eq (l : List ByteArray) : strsV (sortB l) = ((l.map fun x => x.data.toList).mergeSort fun x y => decide (x ≤ y)).map Go.Proofs.encStr := by
  simp [strsV, sortB, Go.Proofs.encStr, Function.comp_def]
section
variable {cs : List Chunk} {H Lo : Heap} {K : Value → Heap → Prop}
theorem sort_spec {s : Sl} {l : List ByteArray} (h : HL.Holds (own 9 1 s (strsV l) :: cs) H) (hl : l.length ≤ 1000000) (k : ∀ H', HL.Holds (own 9 1 s (strsV (sortB l)) :: cs) H' → K (.tuple #[]) H') : FnH Tryz.prog 38 #[.slice s.p s.n s.c] H K := by
  intro R w hf
  obtain ⟨o1, o2, o3⟩ := h.own 0 rfl
  have hn : s.n = l.length := by simpa [strsV] using o1.symm
  have done0 : l = [] → Calls Tryz.prog 38 #[.slice s.p s.n s.c] w (fun e w' => ∃ v H', e = .returned v ∧ HL.Fit H' R w' ∧ HL.Calm w w' ∧ K v H') := fun e => by
    have h0 : s.n = 0 := by rw [hn, e]; rfl
    rw [h0]
    refine (AnyM.slices_Sort_string_none Tryz.sortS s.p s.c w).mono ?_
    rintro e' w' ⟨rfl, rfl⟩
    subst e
    have e0 : sortB [] = [] := by simp [sortB]
    rw [e0] at k
    exact ⟨_, H, rfl, hf, HL.Calm.refl _, k H h⟩
  by_cases hl0 : l = []
  · exact done0 hl0
  rcases o3 with ⟨-, x2⟩ | ⟨b, arr, e1, e2, e3, e4⟩
  · exact done0 (List.eq_nil_of_length_eq_zero (by omega))
  have hwb : w.heap[b]? = some (.cells arr 9 (0, 0)) := hf.own _ _ e2
  have ht : arr.toList.take (l.map fun x => x.data.toList).length = (l.map fun x => x.data.toList).map Go.Proofs.encStr := by
    rw [← encStr_eq]
    apply List.ext_getElem?
    intro j
    by_cases hj : j < l.length
    · have h1 := e4 j (by simpa [strsV] using hj)
      rw [List.getElem?_take_of_lt (by simpa using hj), Array.getElem?_toList, h1]
      rw [List.getElem?_eq_getElem (by simpa [strsV] using hj)]
    · rw [List.getElem?_take_eq_none (by simpa using hj), List.getElem?_eq_none (by simpa [strsV] using hj)]
  have hH := holds_of_block hwb ht
  have hlt : b < w.heap.size := (Array.getElem?_eq_some_iff.1 hwb).1
  have key := AnyM.slices_Sort_string Tryz.sortS b 0 s.c (l.map fun x => x.data.toList) w hH hlt (by rw [List.length_map]; omega)
  rw [List.length_map, ← hn, ← e1] at key
  refine key.mono ?_
  rintro e w' ⟨rfl, n, os, rfl⟩
  have hg := grownBy_sorted (w := w) (g := b) (n := n) (os := os) ((l.map fun x => x.data.toList).mergeSort fun x y => decide (x ≤ y)).toArray
  have hs := heap_sorted (n := n) (os := os) ((l.map fun x => x.data.toList).mergeSort fun x y => decide (x ≤ y)).toArray hwb
  obtain ⟨g1, g2, g3, g4, g5⟩ := hg
  have keep : ∀ b' o, w.heap[b']? = some o → b' ≠ b → (Go.Sort.grow (Go.Sort.putRow Go.Proofs.encStr (Go.Sort.ahead w n) b 0 ((l.map fun x => x.data.toList).mergeSort fun x y => decide (x ≤ y)).toArray) os).heap[b']? = some o := fun b' o h1 h2 => by
    rw [g5 b' (Array.getElem?_eq_some_iff.1 h1).1 (fun e => h2 (by simpa using e))]
    exact h1
  have htk := take_putCells arr ((l.map fun x => x.data.toList).mergeSort fun x y => decide (x ≤ y)) (by rw [List.length_mergeSort, List.length_map]; omega)
  rw [← sortB_eq, List.length_mergeSort, List.length_map] at htk
  refine ⟨_, H.upd b (.cells (Go.Sort.putCells Go.Proofs.encStr 0 ((l.map fun x => x.data.toList).mergeSort fun x y => decide (x ≤ y)).toArray arr) 9 (0, 0)), rfl, ⟨fun b' o hb' => ?_, fun b' o hb' => ?_, fun b' o hb' => ?_⟩, ⟨g1, g2, g3, g4⟩, k _ ?_⟩
  · by_cases e : b' = b
    · subst e
      rw [Heap.upd_same] at hb'
      rw [← hb']; exact hs
    · rw [Heap.upd_ne _ _ e] at hb'
      exact keep _ _ (hf.own _ _ hb') e
  · have hne : b' ≠ b := fun e => by
      have := hf.apart _ _ hb'
      rw [e, e2] at this
      cases this
    exact keep _ _ (hf.rest _ _ hb') hne
  · have hne : b' ≠ b := fun e => by
      have := hf.apart _ _ hb'
      rw [e, e2] at this
      cases this
    rw [Heap.upd_ne _ _ hne]
    exact hf.apart _ _ hb'
  · refine Holds.ownUpd h e1 e2 (by simp [strsV, sortB_len, hn]) (by simp [Go.Sort.putCells, e3]) fun i hi => ?_
    have hil : i < l.length := by simpa [strsV, sortB_len] using hi
    have := congrArg (fun x => x[i]?) htk
    rw [List.getElem?_take_of_lt hil, Array.getElem?_toList, List.getElem?_eq_getElem hi] at this
    exact this
theorem okStr : ElemOK Tryz.prog 37 9 1 := ElemOK.of (by kernel_rfl)
theorem topics12_spec {m i : Nat} {I : Im} (h : HL.Holds cs H) (ei : cs[i]? = some (img Lo m I)) (hok : ImOk I) (k : ∀ (s : Sl) H', HL.Sub H H' → HL.Holds [own 9 1 s (strsV (sortB (I.top.map Prod.fst))), ro H] H' → K (.slice s.p s.n s.c) H') : FnH Tryz.prog 15 #[.pointer (some ⟨m, 0, none⟩)] H K := by
  apply meta_Image_Topics_fn
  unfold meta_Image_Topics_vc
  obtain ⟨c, ⟨hp, hP⟩, hh⟩ := h.read i ei img_mono
  have htl := hok.tops
  have hT : Recs eT H c.ts I.top := Own.recs eTlen (by decide) (hh.own 2 rfl) (by omega)
  have htn := hT.len
  refine ⟨c.ts, hh.cell 0 rfl rfl, fun l n H' => 0 ≤ n ∧ n ≤ c.ts.n ∧ HL.Holds [own 9 1 l (strsV ((I.top.take n.toNat).map Prod.fst)), ro H] H', fun _ n _ => (c.ts.n - n).toNat, ⟨Int.le_refl _, by omega, (Holds.whole H).own_nil 9 1⟩, ?_⟩
  rintro l n H1 ⟨n0, n1, h1⟩
  have s1 := h1.sub 1 rfl
  have hln : l.n = n.toNat := by
    have := (h1.own 0 rfl).1
    simp [strsV] at this
    omega
  refine br_intro (fun w => ?_) (fun w => ?_)
  · have w := of_decide_eq_true w
    obtain ⟨q, o, x, e1, e2, e3⟩ := (Recs.mono _ _ s1 hT).at_ eTlen (by decide) n0 w
    refine ⟨q, o, e1, n0, w, _, e3 0 _ rfl, _, e3 1 _ rfl, _, e3 2 _ rfl, ?_⟩
    rw [wrap64_id (n := n + 1) (by omega) (by omega)]
    refine Holds.push okStr h1 (xs := [.string x.1]) (m := 1) rfl rfl (by omega) fun l2 H2 h2 n2 => ⟨l2, rfl, rfl, ⟨by omega, by omega, ?_⟩, by dsimp only; omega⟩
    have e : strsV ((I.top.take n.toNat).map Prod.fst) ++ [.string x.1] = strsV ((I.top.take (n + 1).toNat).map Prod.fst) := by
      rw [take_step n0 e2]; simp [strsV]
    rw [← e]; exact h2
  · have w := of_decide_eq_false w
    have et : I.top.take n.toNat = I.top := List.take_of_length_le (by omega)
    rw [et] at h1
    exact sort_spec h1 (by rw [List.length_map]; omega) fun H2 h2 => ⟨rfl, k l H2 (h2.sub 1 rfl) h2⟩
end
end Go.Proofs.YtmofinghoacobaaGreatDoor
namespace Go.Proofs.YtmofinghoacobaaGreatDoor
open Go Go.HL
set_option maxHeartbeats 3200000
set_option maxRecDepth 100000
def go {α : Type} (bad : Bool) (x : Option α) : Option α := if bad = true then none else x
def Trn {β : Type} (pz : List Nat → Option (β × List Nat)) (s : ByteArray) (bad : Bool) (x : β) (s' : ByteArray) (bad' : Bool) : Prop := ∀ f : β × List Nat → Option Im, go bad ((pz (nb s)).bind f) = go bad' (f (x, nb s'))
abbrev rdr (q : Nat) (s : ByteArray) (bad : Bool) : Chunk := blk q (.cells #[.string s, .bool bad] 86 (0, 0))
theorem go_ask {α : Type} (bad c : Bool) (x : Option α) : go bad (if c = true then x else none) = go (bad || !c) x := by
  cases bad <;> cases c <;> rfl
section
variable {cs : List Chunk} {H Lo : Heap} {K : Value → Heap → Prop}
theorem int47 {q : Nat} {s : ByteArray} {bad : Bool} {a b : Int} (h : HL.Holds (rdr q s bad :: cs) H) (hs : s.size ≤ 9223372036854775807)
    (k : ∀ (n : Int) (s' : ByteArray) (bad' : Bool) H', Trn (intP a b) s bad n s' bad' → (bad' = true ∧ n = 0) ∨ (bad' = false ∧ bad = false ∧ a ≤ n ∧ n ≤ b) → s'.size ≤ s.size → HL.Holds (rdr q s' bad' :: cs) H' → K (.int .i64 n) H') :
    FnH Tryz.prog 47 #[.pointer (some ⟨q, 0, none⟩), .int .i64 a, .int .i64 b] H K := by
  apply meta_reader_int_fn
  unfold meta_reader_int_vc
  have fin : (bad = true ∨ (readN (nb s)).2.2 ≠ 0 ∨ (readN (nb s)).1 < a ∨ (readN (nb s)).1 > b) → (∃ u, cellH H ⟨q, 0 + 1, none⟩ = some u) ∧ frozenH H ⟨q, 0 + 1, none⟩ = false ∧ letH (Heap.set H ⟨q, 0 + 1, none⟩ (.bool true)) fun H2 => K (.int .i64 0) H2 := fun hc =>
    h.store 0 rfl (by simp) fun H2 h2 => k 0 s true H2 (fun f => by
      cases bad with
      | true => rfl
      | false =>
        have hc : (readN (nb s)).2.2 ≠ 0 ∨ (readN (nb s)).1 < a ∨ (readN (nb s)).1 > b := hc.resolve_left (by decide)
        have e : intP a b (nb s) = none := by
          unfold intP
          rw [if_neg (by rintro ⟨c1, c2, c3⟩; rcases hc with q | q | q <;> omega)]
        rw [e]; rfl) (.inl ⟨rfl, rfl⟩) (Nat.le_refl _) h2
  refine ⟨s, h.cell 0 rfl rfl, readInt_spec ⟨_, _, _, rfl, bad, h.cell 0 rfl rfl, br_intro (fun w => fin (.inl w)) (fun w1 => br_intro (fun w => fin (.inr (.inl (by simpa using w)))) (fun w2 => br_intro (fun w => fin (.inr (.inr (.inl (of_decide_eq_true w))))) (fun w3 => br_intro (fun w => fin (.inr (.inr (.inr (of_decide_eq_true w))))) (fun w4 => ?_))))⟩⟩
  have w2 : (readN (nb s)).2.2 = 0 := by simpa using w2
  have w3 := of_decide_eq_false w3
  have w4 := of_decide_eq_false w4
  obtain ⟨k1, k2⟩ := read_k (nb s) (nb_byte s)
  rw [nb_len] at k2
  subst w1
  have e1 : s.extract (readN (nb s)).2.1.toNat (Int.toNat (s.size : Int)) = nx s := by unfold nx; rw [Int.toNat_natCast]
  refine ⟨s, h.cell 0 rfl rfl, k1, k2, ?_⟩
  rw [e1]
  refine h.store 0 rfl (by simp) fun H2 h2 => k _ (nx s) false H2 (fun f => ?_) (.inr ⟨rfl, rfl, by omega, by omega⟩) ?_ h2
  · have e : intP a b (nb s) = some ((readN (nb s)).1, rest (nb s)) := by
      unfold intP
      rw [if_pos ⟨w2, by omega, by omega⟩]
    rw [e, nb_nx]; rfl
  · have := rest_le (nb s)
    rw [← nb_nx, nb_len, nb_len] at this
    exact this
theorem ask50 {q : Nat} {s : ByteArray} {bad c : Bool} (h : HL.Holds (rdr q s bad :: cs) H) (k : ∀ H', HL.Holds (rdr q s (bad || !c) :: cs) H' → K (.tuple #[]) H') : FnH Tryz.prog 50 #[.pointer (some ⟨q, 0, none⟩), .bool c] H K := by
  apply meta_reader_ask_fn
  unfold meta_reader_ask_vc
  refine ⟨bad, h.cell 0 rfl rfl, br_intro (fun w => h.store 0 rfl (by simp) fun H2 h2 => k H2 ?_) (fun w => h.store 0 rfl (by simp) fun H2 h2 => k H2 ?_)⟩
  · rw [w]; exact h2
  · rw [w]; exact h2
theorem list49 {q : Nat} {s : ByteArray} {bad : Bool} {many a b : Int} (h : HL.Holds (rdr q s bad :: cs) H) (hs : s.size ≤ 9223372036854775807) (hm : 0 ≤ many ∧ many ≤ 1000000)
    (k : ∀ (l : Sl) (L : List Int) (s' : ByteArray) (bad' : Bool) H', Trn (lstP many a b) s bad L s' bad' → (L.length : Int) ≤ many → (bad' = false → ∀ x ∈ L, a ≤ x ∧ x ≤ b) → (bad = true → bad' = true) → s'.size ≤ s.size → HL.Holds (own 3 1 l (iv L) :: rdr q s' bad' :: cs) H' → K (.slice l.p l.n l.c) H') :
    FnH Tryz.prog 49 #[.pointer (some ⟨q, 0, none⟩), .int .i64 many, .int .i64 a, .int .i64 b] H K := by
  apply meta_reader_list_fn
  unfold meta_reader_list_vc
  refine int47 h hs fun n s1 bad1 H1 t1 c1 z1 h1 => ⟨n, rfl, ?_⟩
  have n0 : 0 ≤ n ∧ n ≤ many := by omega
  refine ⟨fun l H' => ∃ (L : List Int) (s2 : ByteArray) (bad2 : Bool), l.n = L.length ∧ (L.length : Int) ≤ n ∧ (bad1 = true → bad2 = true) ∧ (∀ f : List Int × List Nat → Option Im, go bad1 ((repP a b n.toNat [] (nb s1)).bind f) = go bad2 ((repP a b (n - L.length).toNat L (nb s2)).bind f)) ∧ (bad2 = false → ∀ x ∈ L, a ≤ x ∧ x ≤ b) ∧ s2.size ≤ s.size ∧ HL.Holds (own 3 1 l (iv L) :: rdr q s2 bad2 :: cs) H',
    fun l _ => (n - l.n).toNat, ⟨[], s1, bad1, rfl, by simpa using n0.1, id, fun f => by simp, by simp, z1, h1.own_nil 3 1⟩, ?_⟩
  rintro l H2 ⟨L, s2, bad2, e1, e2, e3, e4, e5, z2, h2⟩
  have fin : (L.length : Int) = n ∨ bad2 = true → K (.slice l.p l.n l.c) H2 := fun hc => by
    refine k l L s2 bad2 H2 (fun f => ?_) (by omega) e5 (fun hb => ?_) z2 h2
    · have := t1 fun x => (repP a b x.1.toNat [] x.2).bind f
      have e : (lstP many a b (nb s)).bind f = (intP 0 many (nb s)).bind fun x => (repP a b x.1.toNat [] x.2).bind f := by
        unfold lstP; rw [Option.bind_assoc]
      rw [e, this]
      show go bad1 ((repP a b n.toNat [] (nb s1)).bind f) = _
      rw [e4]
      rcases hc with q | q
      · have : (n - (L.length : Int)).toNat = 0 := by omega
        rw [this]; rfl
      · rw [q]; rfl
    · rcases c1 with ⟨c, -⟩ | ⟨-, c, -⟩
      · exact e3 c
      · rw [hb] at c; cases c
  refine br_intro (fun w => ⟨bad2, h2.cell 1 rfl rfl, br_intro (fun y => ?_) (fun y => fin (.inr (by simpa using y)))⟩) (fun w => fin (.inl (by have := of_decide_eq_false w; omega)))
  have w := of_decide_eq_true w
  have y : bad2 = false := by simpa using y
  refine int47 h2.swap (by omega) fun x s3 bad3 H3 t3 c3 z3 h3 => ⟨x, rfl, ?_⟩
  refine Holds.push okInt h3.swap (xs := [.int .i64 x]) (m := 1) rfl rfl (by omega) fun l2 H4 h4 n4 => ⟨l2, rfl, rfl, ⟨L ++ [x], s3, bad3, by rw [List.length_append]; show _ = L.length + 1; omega, ?_, fun q => ?_, fun f => ?_, fun q => ?_, by omega, ?_⟩, by dsimp only; omega⟩
  · rw [List.length_append]; show ((L.length + 1 : Nat) : Int) ≤ n; omega
  · have := e3 q; rw [y] at this; cases this
  · rw [e4]
    have hn : (n - (L.length : Int)).toNat = (n - ((L ++ [x]).length : Int)).toNat + 1 := by
      rw [List.length_append]; show _ = (n - ((L.length + 1 : Nat) : Int)).toNat + 1; omega
    rw [hn]
    have := t3 fun z => (repP a b (n - ((L ++ [x]).length : Int)).toNat (L ++ [z.1]) z.2).bind f
    rw [← this]
    show go bad2 (((intP a b (nb s2)).bind fun z => repP a b (n - ((L ++ [x]).length : Int)).toNat (L ++ [z.1]) z.2).bind f) = _
    rw [Option.bind_assoc]
  · rcases c3 with ⟨c, -⟩ | ⟨-, -, c1, c2⟩
    · rw [q] at c; cases c
    · intro z hz
      rcases List.mem_append.1 hz with m | m
      · exact e5 y z m
      · rw [List.mem_singleton.1 m]; exact ⟨c1, c2⟩
  · have e : iv L ++ [.int .i64 x] = iv (L ++ [x]) := by simp [iv]
    rw [e] at h4
    exact h4
theorem int47L {s : ByteArray} {bad : Bool} {a b : Int} {X : Int → ByteArray → Bool → Heap → Prop} (h : HL.Holds cs H) (hs : s.size ≤ 9223372036854775807)
    (k : ∀ (n : Int) (s' : ByteArray) (bad' : Bool) H', Trn (intP a b) s bad n s' bad' → (bad' = true ∧ n = 0) ∨ (bad' = false ∧ bad = false ∧ a ≤ n ∧ n ≤ b) → s'.size ≤ s.size → HL.Holds cs H' → X n s' bad' H') :
    ∀ q, H q = none → FnH Tryz.prog 47 #[.pointer (some ⟨q, 0, none⟩), .int .i64 a, .int .i64 b] (Heap.upd H q (.cells #[.string s, .bool bad] 86 (0, 0))) fun r H' => ∃ n : Int, r = .int .i64 n ∧ ∃ s2 : ByteArray, ∃ b : Bool, H' q = some (.cells #[.string s2, .bool b] 86 (0, 0)) ∧ letH (Heap.del H' q) fun H2 => X n s2 b H2 :=
  fun q hq => int47 (h.add hq _) hs fun n s' bad' H' t c z h' => ⟨n, rfl, s', bad', (held_undo h').1, letH_intro fun H2 g => k n s' bad' H2 t c z (by rw [g]; exact (held_undo h').2)⟩
theorem list49L {s : ByteArray} {bad : Bool} {many a b : Int} {X : Sl → ByteArray → Bool → Heap → Prop} (h : HL.Holds cs H) (hs : s.size ≤ 9223372036854775807) (hm : 0 ≤ many ∧ many ≤ 1000000)
    (k : ∀ (l : Sl) (L : List Int) (s' : ByteArray) (bad' : Bool) H', Trn (lstP many a b) s bad L s' bad' → (L.length : Int) ≤ many → (bad' = false → ∀ x ∈ L, a ≤ x ∧ x ≤ b) → (bad = true → bad' = true) → s'.size ≤ s.size → HL.Holds (own 3 1 l (iv L) :: cs) H' → X l s' bad' H') :
    ∀ q, H q = none → FnH Tryz.prog 49 #[.pointer (some ⟨q, 0, none⟩), .int .i64 many, .int .i64 a, .int .i64 b] (Heap.upd H q (.cells #[.string s, .bool bad] 86 (0, 0))) fun r H' => ∃ l : Sl, r = .slice l.p l.n l.c ∧ ∃ s2 : ByteArray, ∃ b : Bool, H' q = some (.cells #[.string s2, .bool b] 86 (0, 0)) ∧ letH (Heap.del H' q) fun H2 => X l s2 b H2 :=
  fun q hq => list49 (h.add hq _) hs hm fun l L s' bad' H' t c1 c2 c3 z h' => ⟨l, rfl, s', bad', (held_undo h'.swap).1, letH_intro fun H2 g => k l L s' bad' H2 t c1 c2 c3 z (by rw [g]; exact (held_undo h'.swap).2)⟩
theorem ask50L {s : ByteArray} {bad c : Bool} {X : ByteArray → Bool → Heap → Prop} (h : HL.Holds cs H) (k : ∀ H', HL.Holds cs H' → X s (bad || !c) H') :
    ∀ q, H q = none → FnH Tryz.prog 50 #[.pointer (some ⟨q, 0, none⟩), .bool c] (Heap.upd H q (.cells #[.string s, .bool bad] 86 (0, 0))) fun r H' => r = .tuple #[] ∧ ∃ s2 : ByteArray, ∃ b : Bool, H' q = some (.cells #[.string s2, .bool b] 86 (0, 0)) ∧ letH (Heap.del H' q) fun H2 => X s2 b H2 :=
  fun q hq => ask50 (h.add hq _) fun H' h' => ⟨rfl, s, (bad || !c), (held_undo h').1, letH_intro fun H2 g => k H2 (by rw [g]; exact (held_undo h').2)⟩
end
end Go.Proofs.YtmofinghoacobaaGreatDoor
namespace Go.Proofs.YtmofinghoacobaaGreatDoor
open Go Go.HL
set_option maxHeartbeats 3200000
set_option maxRecDepth 100000
theorem ext_take {s : ByteArray} {n : Int} (h0 : 0 ≤ n) (h1 : n ≤ s.size) : s.extract (Int.toNat 0) n.toNat = strN ((nb s).take n.toNat) :=
  nb_inj (by
    rw [nb_extract, nb_str (fun b hb => nb_byte s b (List.mem_of_mem_take hb))]
    simp)
theorem ext_drop {s : ByteArray} {n : Int} : nb (s.extract n.toNat (Int.toNat (s.size : Int))) = (nb s).drop n.toNat := by
  rw [nb_extract, Int.toNat_natCast, ← nb_len, List.take_length]
section
variable {cs : List Chunk} {H Lo : Heap} {K : Value → Heap → Prop}
theorem topics48 {q m : Nat} {s : ByteArray} {bad : Bool} {I : Im} (h : HL.Holds (rdr q s bad :: img Lo m I :: cs) H) (hs : s.size ≤ 9223372036854775807) (hT : I.top = []) (hok : bad = false → ImOk I)
    (k : ∀ (next : Int) (T : List Tp) (s' : ByteArray) (bad' : Bool) H', (∀ f : List Tp × Int × List Nat → Option Im, go bad ((intP 0 16 (nb s)).bind fun n => (topP n.1.toNat 1 [] n.2).bind f) = go bad' (f (T, next, nb s'))) → T.length ≤ 16 → (bad' = false → ImOk { I with top := T }) → (bad = true → bad' = true) → s'.size ≤ s.size → (1 ≤ next ∧ next ≤ 1000) →
      HL.Holds (rdr q s' bad' :: img Lo m { I with top := T } :: cs) H' → K (.int .i64 next) H') :
    FnH Tryz.prog 48 #[.pointer (some ⟨q, 0, none⟩), .pointer (some ⟨m, 0, none⟩)] H K := by
  apply meta_reader_topics_fn
  unfold meta_reader_topics_vc
  refine int47 h hs fun n0 s1 bad1 H1 t1 c1 z1 h1 => ⟨n0, rfl, ?_⟩
  have hn0 : 0 ≤ n0 ∧ n0 ≤ 16 := by omega
  have hI : { I with top := [] } = I := by rw [← hT]
  have hb1 : bad1 = false → bad = false := fun e => by
    rcases c1 with ⟨c, -⟩ | ⟨-, c, -⟩
    · rw [e] at c; cases c
    · exact c
  refine ⟨fun next n H' => ∃ (T : List Tp) (s2 : ByteArray) (bad2 : Bool), (1 ≤ next ∧ next ≤ 1 + 16 * (T.length : Int)) ∧ 0 ≤ n ∧ n + T.length ≤ 16 ∧ (bad1 = true → bad2 = true) ∧ (∀ f : List Tp × Int × List Nat → Option Im, go bad1 ((topP n0.toNat 1 [] (nb s1)).bind f) = go bad2 ((topP n.toNat next T (nb s2)).bind f)) ∧ (bad2 = false → ImOk { I with top := T }) ∧ s2.size ≤ s.size ∧ HL.Holds (rdr q s2 bad2 :: img Lo m { I with top := T } :: cs) H',
    fun _ n _ => n.toNat, ⟨[], s1, bad1, ⟨by decide, by decide⟩, hn0.1, by simpa using hn0.2, id, fun f => rfl, fun e => by rw [hI]; exact hok (hb1 e), z1, by rw [hI]; exact h1⟩, ?_⟩
  rintro next n H2 ⟨T, s2, bad2, nx, n0', n1, b12, hC, hok2, z2, h2⟩
  have fin : ∀ (s3 : ByteArray) (bad3 : Bool) (H3 : Heap), (∀ f : List Tp × Int × List Nat → Option Im, go bad1 ((topP n0.toNat 1 [] (nb s1)).bind f) = go bad3 (f (T, next, nb s3))) → (bad3 = false → bad2 = false) → (bad1 = true → bad3 = true) → s3.size ≤ s.size → HL.Holds (rdr q s3 bad3 :: img Lo m { I with top := T } :: cs) H3 → K (.int .i64 next) H3 := fun s3 bad3 H3 hC3 b23 b13 z3 h3 => by
    refine k next T s3 bad3 H3 (fun f => ?_) (by omega) (fun e => hok2 (b23 e)) (fun e => ?_) z3 (by omega) h3
    · rw [t1 fun n => (topP n.1.toNat 1 [] n.2).bind f]
      exact hC3 f
    · rcases c1 with ⟨c, -⟩ | ⟨-, c, -⟩
      · exact b13 c
      · rw [e] at c; cases c
  refine br_intro (fun w => ⟨bad2, h2.cell 0 rfl rfl, br_intro (fun y => ?_) (fun y => ?_)⟩) (fun w => ?_)
  rotate_left
  · have y : bad2 = true := by simpa using y
    exact fin s2 bad2 H2 (fun f => by rw [hC, y]; rfl) id b12 z2 h2
  · have w := of_decide_eq_false w
    exact fin s2 bad2 H2 (fun f => by
      rw [hC]
      have : n.toNat = 0 := by omega
      rw [this]; rfl) id b12 z2 h2
  have w := of_decide_eq_true w
  have y : bad2 = false := by simpa using y
  subst y
  have hokT := hok2 rfl
  have hnn : n.toNat = (n - 1).toNat + 1 := by omega
  refine int47 h2 (by omega) fun c s3 bad3 H3 t3 c3 z3 h3 => ⟨c, rfl, s3, h3.cell 0 rfl rfl, ?_⟩
  have hc : 0 ≤ c ∧ c ≤ 32 := by omega
  have hl3 := nb_len s3
  have hC3 : ∀ f : List Tp × Int × List Nat → Option Im, go bad1 ((topP n0.toNat 1 [] (nb s1)).bind f) = go bad3 ((if ((nb s3).length : Int) < c then none else
      (intP 1 16 ((nb s3).drop c.toNat)).bind fun x => (intP 1 16 x.2).bind fun z => if tNamed (strN ((nb s3).take c.toNat)) = true ∧ (∀ t ∈ T, t.1 ≠ strN ((nb s3).take c.toNat)) ∧ x.1 = next then topP (n - 1).toNat (next + z.1) (T ++ [(strN ((nb s3).take c.toNat), x.1, z.1)]) z.2 else none).bind f) := fun f => by
    rw [hC, hnn]
    have := t3 fun v => (if (v.2.length : Int) < v.1 then none else
      (intP 1 16 (v.2.drop v.1.toNat)).bind fun x => (intP 1 16 x.2).bind fun z => if tNamed (strN (v.2.take v.1.toNat)) = true ∧ (∀ t ∈ T, t.1 ≠ strN (v.2.take v.1.toNat)) ∧ x.1 = next then topP (n - 1).toNat (next + z.1) (T ++ [(strN (v.2.take v.1.toNat), x.1, z.1)]) z.2 else none).bind f
    rw [← this]
    show go false ((((intP 1 32 (nb s2)).bind fun v => _) : Option _).bind f) = _
    rw [Option.bind_assoc]
  refine br_intro (fun w3 => ?_) (fun w3 => ?_)
  · have w3 := of_decide_eq_true w3
    refine h3.store 0 rfl (by simp) fun H4 h4 => fin s3 true H4 (fun f => ?_) (fun e => by cases e) (fun _ => rfl) (by omega) h4
    rw [hC3, if_pos (by omega)]
    cases bad3 <;> rfl
  have w3 := of_decide_eq_false w3
  have hd := ext_drop (s := s3) (n := c)
  have ht := ext_take (s := s3) hc.1 (by omega)
  refine ⟨s3, h3.cell 0 rfl rfl, hc.1, by omega, s3, h3.cell 0 rfl rfl, hc.1, by omega, h3.store 0 rfl (by simp) fun H4 h4 => ?_⟩
  rw [ht]
  have hsz4 : (s3.extract c.toNat (Int.toNat (s3.size : Int))).size ≤ s3.size := by
    rw [← nb_len, hd, List.length_drop, nb_len]; omega
  refine int47 h4 (by omega) fun fi s5 bad5 H5 t5 c5 z5 h5 => ⟨fi, rfl, int47 h5 (by omega) fun ma s6 bad6 H6 t6 c6 z6 h6 => ⟨ma, rfl, ?_⟩⟩
  have hb : bad6 = false → bad5 = false ∧ bad3 = false := fun e => by
    rcases c6 with ⟨c, -⟩ | ⟨-, c, -⟩
    · rw [e] at c; cases c
    · refine ⟨c, ?_⟩
      rcases c5 with ⟨c', -⟩ | ⟨-, c', -⟩
      · rw [c] at c'; cases c'
      · exact c'
  generalize hnm : strN ((nb s3).take c.toNat) = nm at hC3 ⊢
  have hC6 : ∀ f : List Tp × Int × List Nat → Option Im, go bad1 ((topP n0.toNat 1 [] (nb s1)).bind f) = go (bad6 || !decide (tNamed nm = true ∧ (∀ t ∈ T, t.1 ≠ nm) ∧ fi = next)) ((topP (n - 1).toNat (next + ma) (T ++ [(nm, fi, ma)]) (nb s6)).bind f) := fun f => by
    rw [hC3, if_neg (by omega), ← hd]
    rw [Option.bind_assoc]
    rw [t5 fun x => ((intP 1 16 x.2).bind fun z => if tNamed nm = true ∧ (∀ t ∈ T, t.1 ≠ nm) ∧ x.1 = next then topP (n - 1).toNat (next + z.1) (T ++ [(nm, x.1, z.1)]) z.2 else none).bind f]
    show go bad5 (((intP 1 16 (nb s5)).bind fun z => if tNamed nm = true ∧ (∀ t ∈ T, t.1 ≠ nm) ∧ fi = next then topP (n - 1).toNat (next + z.1) (T ++ [(nm, fi, z.1)]) z.2 else none).bind f) = _
    rw [Option.bind_assoc]
    rw [t6 fun z => (if tNamed nm = true ∧ (∀ t ∈ T, t.1 ≠ nm) ∧ fi = next then topP (n - 1).toNat (next + z.1) (T ++ [(nm, fi, z.1)]) z.2 else none).bind f]
    rw [← go_ask]
    congr 1
    by_cases e : tNamed nm = true ∧ (∀ t ∈ T, t.1 ≠ nm) ∧ fi = next
    · rw [if_pos e, if_pos (decide_eq_true e)]
    · rw [if_neg e, if_neg (by rw [decide_eq_false e]; decide)]; rfl
  refine ⟨fun H' => HL.Holds (rdr q s6 (bad6 || !decide (tNamed nm = true ∧ (∀ t ∈ T, t.1 ≠ nm) ∧ fi = next)) :: img Lo m { I with top := T } :: cs) H', named_spec ⟨_, rfl, br_intro (fun e1 => ?_) (fun e1 => ?_)⟩, ?_⟩
  · refine find_spec (i := 1) h6 rfl hokT (fun hno => ⟨⟨none, 0, 0⟩, rfl, br_t rfl (ask50 h6 fun H7 h7 => ⟨rfl, rfl, ?_⟩)⟩) fun j t ht1 ht2 ht3 fl H7 s7 h7 => ⟨fl, rfl, br_f ?_ (ask50 (h6.up s7) fun H8 h8 => ⟨rfl, rfl, ?_⟩)⟩
    · have e : decide (tNamed nm = true ∧ (∀ t ∈ T, t.1 ≠ nm) ∧ fi = next) = (fi == next) := by
        rw [Bool.eq_iff_iff, decide_eq_true_iff, beq_iff_eq]
        exact ⟨fun z => z.2.2, fun z => ⟨e1, hno, z⟩⟩
      show HL.Holds (rdr q s6 (bad6 || !decide (tNamed nm = true ∧ (∀ t ∈ T, t.1 ≠ nm) ∧ fi = next)) :: img Lo m { I with top := T } :: cs) H7
      rw [e]; exact h7
    · have hm := List.mem_of_getElem? ht1
      obtain ⟨-, -, -, t3', t4'⟩ := hokT.topv t hm
      have hfi := own_ints (h7.own 0 rfl) (by rw [List.length_map, List.length_range]; omega)
      cases e : fl.p with
      | some a => rfl
      | none =>
        have e1 := congrArg List.length (hfi.pnone e)
        rw [List.length_map, List.length_range] at e1
        have e1 : t.2.2.toNat = 0 := e1
        omega
    · have hm := List.mem_of_getElem? ht1
      have e : decide (tNamed nm = true ∧ (∀ t ∈ T, t.1 ≠ nm) ∧ fi = next) = false := decide_eq_false fun z => z.2.1 t hm ht2
      show HL.Holds (rdr q s6 (bad6 || !decide (tNamed nm = true ∧ (∀ t ∈ T, t.1 ≠ nm) ∧ fi = next)) :: img Lo m { I with top := T } :: cs) H8
      rw [e]; exact h8
  · refine ask50 h6 fun H7 h7 => ⟨rfl, rfl, ?_⟩
    have e : decide (tNamed nm = true ∧ (∀ t ∈ T, t.1 ≠ nm) ∧ fi = next) = false := decide_eq_false fun z => by rw [z.1] at e1; cases e1
    show HL.Holds (rdr q s6 (bad6 || !decide (tNamed nm = true ∧ (∀ t ∈ T, t.1 ≠ nm) ∧ fi = next)) :: img Lo m { I with top := T } :: cs) H7
    rw [e]; exact h7
  intro H7 h7
  obtain ⟨p, ⟨hp, hP⟩, h8⟩ := img_open.1 h7.swap
  have hTR : Recs eT H7 p.ts T := Own.recs eTlen (by decide) (h8.own 2 rfl) (by omega)
  have htn := hTR.len
  rw [wrap64_id (n := n - 1) (by omega) (by omega), wrap64_id (n := next + ma) (by omega) (by omega)]
  refine ⟨p.ts, h8.cell 0 rfl rfl, Holds.pushS okTop (HL.Sub.refl _) (h8.pull 2 rfl) (xs := [.string nm, .int .i64 fi, .int .i64 ma]) (m := 1) rfl rfl (by omega) fun l3 H8 h9 n9 => ⟨l3, rfl, h9.store 1 rfl (by simp) fun H9 h10 => ?_⟩⟩
  have ef : T.flatMap eT ++ [.string nm, .int .i64 fi, .int .i64 ma] = (T ++ [(nm, fi, ma)]).flatMap eT := by simp
  rw [ef] at h10
  have h11 : HL.Holds (img Lo m { I with top := T ++ [(nm, fi, ma)] } :: rdr q s6 (bad6 || !decide (tNamed nm = true ∧ (∀ t ∈ T, t.1 ≠ nm) ∧ fi = next)) :: cs) H9 := img_open.2 ⟨{ p with ts := l3 }, ⟨hp, hP⟩, h10.down 2⟩
  refine ⟨rfl, ⟨T ++ [(nm, fi, ma)], s6, _, ?_, by omega, ?_, fun e => ?_, hC6, fun e => ?_, by omega, h11.swap⟩, by dsimp only; omega⟩
  · rw [List.length_append]; show 1 ≤ next + ma ∧ next + ma ≤ 1 + 16 * ((T.length + 1 : Nat) : Int); omega
  · rw [List.length_append]; show n - 1 + ((T.length + 1 : Nat) : Int) ≤ 16; omega
  · have := b12 e; cases this
  · rw [Bool.or_eq_false_iff] at e
    obtain ⟨e1, e2⟩ := e
    have e2 : tNamed nm = true ∧ (∀ t ∈ T, t.1 ≠ nm) ∧ fi = next := of_decide_eq_true (by simpa using e2)
    obtain ⟨b5, b3⟩ := hb e1
    have v6 : 1 ≤ ma ∧ ma ≤ 16 := by
      rcases c6 with ⟨c, -⟩ | ⟨-, -, c, c'⟩
      · rw [e1] at c; cases c
      · exact ⟨c, c'⟩
    have v5 : 1 ≤ fi ∧ fi ≤ 16 := by
      rcases c5 with ⟨c, -⟩ | ⟨-, -, c, c'⟩
      · rw [b5] at c; cases c
      · exact ⟨c, c'⟩
    refine ⟨hokT.sorted, hokT.ids, hokT.right, hokT.parts, ?_, fun t ht => ?_, hokT.prds, hokT.prd⟩
    · show (T ++ [(nm, fi, ma)]).length ≤ 16
      rw [List.length_append]; show T.length + 1 ≤ 16; omega
    · rcases List.mem_append.1 ht with g | g
      · exact hokT.topv t g
      · rw [List.mem_singleton.1 g]; exact ⟨e2.1, v5.1, v5.2, v6.1, v6.2⟩
end
end Go.Proofs.YtmofinghoacobaaGreatDoor
namespace Go.Proofs.YtmofinghoacobaaGreatDoor
open Go Go.HL
set_option maxHeartbeats 3200000
set_option maxRecDepth 100000
abbrev nilS : Sl := ⟨none, 0, 0⟩
abbrev pcells (id n0 n1 n2 n3 : Int) (V : List Sl) : Array Value := #[.int .i64 id, .int .i64 n0, .int .i64 n1, .int .i64 n2, .slice (V.getD 0 nilS).p (V.getD 0 nilS).n (V.getD 0 nilS).c, .slice (V.getD 1 nilS).p (V.getD 1 nilS).n (V.getD 1 nilS).c, .slice (V.getD 2 nilS).p (V.getD 2 nilS).n (V.getD 2 nilS).c, .slice (V.getD 3 nilS).p (V.getD 3 nilS).n (V.getD 3 nilS).c, .int .i64 n3]
def pOf (id n0 n1 n2 n3 : Int) (L : List (List Int)) : Part := ⟨id, n0, n1, n2, L.getD 0 [], L.getD 1 [], L.getD 2 [], L.getD 3 [], n3⟩
def rdL (id n0 n1 n2 n3 : Int) : Nat → List (List Int) → List Nat → Option (Part × List Nat)
  | 0, L, l => if rightB (pOf id n0 n1 n2 n3 L) = true then some (pOf id n0 n1 n2 n3 L, l) else none
  | k + 1, L, l => (lstP 7 1 7 l).bind fun x => rdL id n0 n1 n2 n3 k (L ++ [x.1]) x.2
theorem oneP_rd (id : Int) (l : List Nat) : oneP id l = (intP 0 7 l).bind fun a => (intP 1 1000000000 a.2).bind fun b => (intP 1 1000000000 b.2).bind fun c => (intP 1 5 c.2).bind fun d => rdL id a.1 b.1 c.1 d.1 4 [] d.2 := rfl
theorem len1 {α : Type} {l : List α} (h : l.length = 1) : ∃ a, l = [a] := by match l, h with | [a], _ => exact ⟨a, rfl⟩
theorem len2 {α : Type} {l : List α} (h : l.length = 2) : ∃ a b, l = [a, b] := by match l, h with | [a, b], _ => exact ⟨a, b, rfl⟩
theorem len3 {α : Type} {l : List α} (h : l.length = 3) : ∃ a b c, l = [a, b, c] := by match l, h with | [a, b, c], _ => exact ⟨a, b, c, rfl⟩
theorem len4 {α : Type} {l : List α} (h : l.length = 4) : ∃ a b c d, l = [a, b, c, d] := by match l, h with | [a, b, c, d], _ => exact ⟨a, b, c, d, rfl⟩
section
variable {cs : List Chunk} {H Lo : Heap}
theorem load_list {m q q1 : Nat} {I : Im} {d : Pc} {id n0 n1 n2 n3 : Int} {A : Heap} {o : Obj} {V : List Sl} {L : List (List Int)} {l : Sl} {x : List Int} {s : ByteArray} {b : Bool} {s' : ByteArray} {b' : Bool} {k : Nat} {C : Option Im} {f : Part × List Nat → Option Im}
    (hI : ∀ (j : Nat) (v : Sl) (y : List Int), V[j]? = some v → L[j]? = some y → Ints A v y) (hVL : V.length = L.length) (hl : Ints A l x) (t : Trn (lstP 7 1 7) s b x s' b') (hC : C = go b ((rdL id n0 n1 n2 n3 (k + 1) L (nb s)).bind f)) :
    (∀ (j : Nat) (v : Sl) (y : List Int), (V ++ [l])[j]? = some v → (L ++ [x])[j]? = some y → Ints A v y) ∧ C = go b' ((rdL id n0 n1 n2 n3 k (L ++ [x]) (nb s')).bind f) := by
  refine ⟨fun j v y h1 h2 => ?_, ?_⟩
  · by_cases e : j < V.length
    · rw [List.getElem?_append_left e] at h1
      rw [List.getElem?_append_left (by omega)] at h2
      exact hI j v y h1 h2
    · rw [List.getElem?_append_right (by omega)] at h1
      rw [List.getElem?_append_right (by omega), ← hVL] at h2
      cases hj : j - V.length with
      | zero =>
        rw [hj] at h1 h2
        have h1 : l = v := by simpa using h1
        have h2 : x = y := by simpa using h2
        rw [← h1, ← h2]; exact hl
      | succ n => rw [hj] at h1; simp at h1
  · rw [hC, ← t fun z => (rdL id n0 n1 n2 n3 k (L ++ [z.1]) z.2).bind f]
    show go b (((lstP 7 1 7 (nb s)).bind fun z => rdL id n0 n1 n2 n3 k (L ++ [z.1]) z.2).bind f) = _
    rw [Option.bind_assoc]
theorem ptail {m q : Nat} {I : Im} {d : Pc} {lp : Sl} {nx0 cnt n0 n1 n2 n3 : Int} {s0 : ByteArray} {b0 : Bool} {X : ByteArray → Bool → Heap → Prop}
    (h : HL.Holds (imgL m I d ++ (blk q (.cells #[.int .i64 0, .int .i64 0, .int .i64 0, .int .i64 0, .slice none 0 0, .slice none 0 0, .slice none 0 0, .slice none 0 0, .int .i64 0] 41 (0, 0)) :: cs)) H)
    (hp : List.Perm d.fs I.brk) (hP : PsIn Lo d.A d.vs I.prt) (hlp : lp.n = I.prt.length) (hpl : I.prt.length ≤ 15) (hs : s0.size ≤ 9223372036854775807)
    (k : ∀ (p : Part) (s' : ByteArray) (b' : Bool) H', (∀ f : Part × List Nat → Option Im, go b0 ((rdL ((I.prt.length : Int) + 1) n0 n1 n2 n3 4 [] (nb s0)).bind f) = go b' (f (p, nb s'))) → (b' = false → RightOf p) → (b0 = true → b' = true) → s'.size ≤ s0.size → HL.Holds (img Lo m { I with prt := I.prt ++ [p] } :: cs) H' → X s' b' H') :
    (∃ u, cellH H ⟨q, 0, none⟩ = some u) ∧
      frozenH H ⟨q, 0, none⟩ = false ∧
      letH (Heap.set H ⟨q, 0, none⟩ (.int .i64 (IntKind.wrap .i64 ((lp.n : Nat) + 1)))) fun H35 =>
      (∃ u, cellH H35 ⟨q, 1, none⟩ = some u) ∧
      frozenH H35 ⟨q, 1, none⟩ = false ∧
      letH (Heap.set H35 ⟨q, 1, none⟩ (.int .i64 n0)) fun H36 =>
      (∃ u, cellH H36 ⟨q, 2, none⟩ = some u) ∧
      frozenH H36 ⟨q, 2, none⟩ = false ∧
      letH (Heap.set H36 ⟨q, 2, none⟩ (.int .i64 n1)) fun H37 =>
      (∃ u, cellH H37 ⟨q, 3, none⟩ = some u) ∧
      frozenH H37 ⟨q, 3, none⟩ = false ∧
      letH (Heap.set H37 ⟨q, 3, none⟩ (.int .i64 n2)) fun H38 =>
      (∃ u, cellH H38 ⟨q, 4, none⟩ = some u) ∧
      frozenH H38 ⟨q, 4, none⟩ = false ∧
      letH (Heap.set H38 ⟨q, 4, none⟩ (.slice none 0 0)) fun H39 =>
      (∃ u, cellH H39 ⟨q, 5, none⟩ = some u) ∧
      frozenH H39 ⟨q, 5, none⟩ = false ∧
      letH (Heap.set H39 ⟨q, 5, none⟩ (.slice none 0 0)) fun H40 =>
      (∃ u, cellH H40 ⟨q, 6, none⟩ = some u) ∧
      frozenH H40 ⟨q, 6, none⟩ = false ∧
      letH (Heap.set H40 ⟨q, 6, none⟩ (.slice none 0 0)) fun H41 =>
      (∃ u, cellH H41 ⟨q, 7, none⟩ = some u) ∧
      frozenH H41 ⟨q, 7, none⟩ = false ∧
      letH (Heap.set H41 ⟨q, 7, none⟩ (.slice none 0 0)) fun H42 =>
      (∃ u, cellH H42 ⟨q, 8, none⟩ = some u) ∧
      frozenH H42 ⟨q, 8, none⟩ = false ∧
      letH (Heap.set H42 ⟨q, 8, none⟩ (.int .i64 n3)) fun H43 =>
      ∀ q17 : Nat,
      H43 q17 = none →
      letH (Heap.upd H43 q17 (.cells #[.pointer (some ⟨q, 4, none⟩), .pointer (some ⟨q, 5, none⟩), .pointer (some ⟨q, 6, none⟩), .pointer (some ⟨q, 7, none⟩)] 88 (0, 0))) fun H44 =>
      ∃ I3 : Int → ByteArray → Bool → Heap → Prop,
      ∃ M3 : Int → ByteArray → Bool → Heap → Nat,
      I3 0 s0 b0 H44 ∧
      ∀ n_3 : Int,
      ∀ s17 : ByteArray,
      ∀ b16 : Bool,
      ∀ H45 : Heap,
      I3 n_3 s17 b16 H45 →
      br (decide ((n_3 : Int) < (4 : Nat))) (
      ∃ q18 : Nat,
      ∃ o4 : Nat,
      ((some ⟨q17, 0, none⟩) : Option Addr) = some ⟨q18, o4, none⟩ ∧
      0 ≤ (n_3 : Int) ∧
      (n_3 : Int) < (4 : Nat) ∧
      ∃ p2 : Option Addr,
      cellH H45 ⟨q18, o4 + Int.toNat n_3, none⟩ = some (.pointer p2) ∧
      ∀ q19 : Nat,
      H45 q19 = none →
      FnH Tryz.prog 49 #[.pointer (some ⟨q19, 0, none⟩), .int .i64 7, .int .i64 1, .int .i64 7] (Heap.upd H45 q19 (.cells #[.string s17, .bool b16] 86 (0, 0))) fun r16 H46 =>
      ∃ l2 : Sl,
      r16 = .slice l2.p l2.n l2.c ∧
      ∃ s18 : ByteArray,
      ∃ b17 : Bool,
      H46 q19 = some (.cells #[.string s18, .bool b17] 86 (0, 0)) ∧
      letH (Heap.del H46 q19) fun H47 =>
      ptrm p2 fun q20 o5 =>
      (∃ u, cellH H47 ⟨q20, o5, none⟩ = some u) ∧
      frozenH H47 ⟨q20, o5, none⟩ = false ∧
      letH (Heap.set H47 ⟨q20, o5, none⟩ (.slice l2.p l2.n l2.c)) fun H48 =>
      SelfEq ([.loc 0 0, .v (.pointer (some ⟨m, 0, none⟩)), .v (.int .i64 nx0), .v (.int .i64 cnt), .v (.pointer (some ⟨q, 0, none⟩)), .v (.slice (some ⟨q17, 0, none⟩) 4 4), .v (.int .i64 (4 : Nat))], [], [86]) ∧
      I3 (IntKind.wrap .i64 (n_3 + 1)) s18 b17 H48 ∧
      M3 (IntKind.wrap .i64 (n_3 + 1)) s18 b17 H48 < M3 n_3 s17 b16 H45)
      (
      ∃ n14 : Int,
      cellH H45 ⟨q, 0, none⟩ = some (.int .i64 n14) ∧
      ∃ n15 : Int,
      cellH H45 ⟨q, 1, none⟩ = some (.int .i64 n15) ∧
      ∃ n16 : Int,
      cellH H45 ⟨q, 2, none⟩ = some (.int .i64 n16) ∧
      ∃ n17 : Int,
      cellH H45 ⟨q, 3, none⟩ = some (.int .i64 n17) ∧
      ∃ l3 : Sl,
      cellH H45 ⟨q, 4, none⟩ = some (.slice l3.p l3.n l3.c) ∧
      ∃ l4 : Sl,
      cellH H45 ⟨q, 5, none⟩ = some (.slice l4.p l4.n l4.c) ∧
      ∃ l5 : Sl,
      cellH H45 ⟨q, 6, none⟩ = some (.slice l5.p l5.n l5.c) ∧
      ∃ l6 : Sl,
      cellH H45 ⟨q, 7, none⟩ = some (.slice l6.p l6.n l6.c) ∧
      ∃ n18 : Int,
      cellH H45 ⟨q, 8, none⟩ = some (.int .i64 n18) ∧
      FnH Tryz.prog 51 #[.agg #[.int .i64 n14, .int .i64 n15, .int .i64 n16, .int .i64 n17, .slice l3.p l3.n l3.c, .slice l4.p l4.n l4.c, .slice l5.p l5.n l5.c, .slice l6.p l6.n l6.c, .int .i64 n18]] H45 fun r17 H49 =>
      ∃ b18 : Bool,
      r17 = .bool b18 ∧
      ∀ q21 : Nat,
      H49 q21 = none →
      FnH Tryz.prog 50 #[.pointer (some ⟨q21, 0, none⟩), .bool b18] (Heap.upd H49 q21 (.cells #[.string s17, .bool b16] 86 (0, 0))) fun r18 H50 =>
      r18 = .tuple #[] ∧
      ∃ s19 : ByteArray,
      ∃ b19 : Bool,
      H50 q21 = some (.cells #[.string s19, .bool b19] 86 (0, 0)) ∧
      letH (Heap.del H50 q21) fun H51 =>
      ptrm (some ⟨m, 0, none⟩) fun q22 o6 =>
      ∃ l7 : Sl,
      cellH H51 ⟨q22, o6 + 3, none⟩ = some (.slice l7.p l7.n l7.c) ∧
      ∃ n19 : Int,
      cellH H51 ⟨q, 0, none⟩ = some (.int .i64 n19) ∧
      ∃ n20 : Int,
      cellH H51 ⟨q, 1, none⟩ = some (.int .i64 n20) ∧
      ∃ n21 : Int,
      cellH H51 ⟨q, 2, none⟩ = some (.int .i64 n21) ∧
      ∃ n22 : Int,
      cellH H51 ⟨q, 3, none⟩ = some (.int .i64 n22) ∧
      ∃ l8 : Sl,
      cellH H51 ⟨q, 4, none⟩ = some (.slice l8.p l8.n l8.c) ∧
      ∃ l9 : Sl,
      cellH H51 ⟨q, 5, none⟩ = some (.slice l9.p l9.n l9.c) ∧
      ∃ l10 : Sl,
      cellH H51 ⟨q, 6, none⟩ = some (.slice l10.p l10.n l10.c) ∧
      ∃ l11 : Sl,
      cellH H51 ⟨q, 7, none⟩ = some (.slice l11.p l11.n l11.c) ∧
      ∃ n23 : Int,
      cellH H51 ⟨q, 8, none⟩ = some (.int .i64 n23) ∧
      ∀ q23 : Nat,
      H51 q23 = none →
      letH (Heap.upd H51 q23 (.cells #[.int .i64 n19, .int .i64 n20, .int .i64 n21, .int .i64 n22, .slice l8.p l8.n l8.c, .slice l9.p l9.n l9.c, .slice l10.p l10.n l10.c, .slice l11.p l11.n l11.c, .int .i64 n23] 41 (0, 0))) fun H52 =>
      HL.Sub H51 H52 ∧
      runH Tryz.prog (Builtin.append_ #[35, 35] 35 #[.slice l7.p l7.n l7.c, .slice (some ⟨q23, 0, none⟩) 1 1]) H52 fun r19 H53 =>
      ∃ l12 : Sl,
      r19 = .slice l12.p l12.n l12.c ∧
      ptrm (some ⟨m, 0, none⟩) fun q24 o7 =>
      (∃ u, cellH H53 ⟨q24, o7 + 3, none⟩ = some u) ∧
      frozenH H53 ⟨q24, o7 + 3, none⟩ = false ∧
      letH (Heap.set H53 ⟨q24, o7 + 3, none⟩ (.slice l12.p l12.n l12.c)) fun H54 =>
      X s19 b19 H54) := by
  have hvl : d.vs.length = I.prt.length := hP.1
  rw [hlp, wrap64_id (n := (I.prt.length : Int) + 1) (by omega) (by omega)]
  refine h.store 6 rfl (by simp) fun H1 h1 => ?_
  have h1 : HL.Holds (imgL m I d ++ (blk q (.cells #[.int .i64 ((I.prt.length : Int) + 1), .int .i64 0, .int .i64 0, .int .i64 0, .slice none 0 0, .slice none 0 0, .slice none 0 0, .slice none 0 0, .int .i64 0] 41 (0, 0)) :: cs)) H1 := h1
  refine h1.store 6 rfl (by simp) fun H2 h2 => ?_
  have h2 : HL.Holds (imgL m I d ++ (blk q (.cells #[.int .i64 ((I.prt.length : Int) + 1), .int .i64 n0, .int .i64 0, .int .i64 0, .slice none 0 0, .slice none 0 0, .slice none 0 0, .slice none 0 0, .int .i64 0] 41 (0, 0)) :: cs)) H2 := h2
  refine h2.store 6 rfl (by simp) fun H3 h3 => ?_
  have h3 : HL.Holds (imgL m I d ++ (blk q (.cells #[.int .i64 ((I.prt.length : Int) + 1), .int .i64 n0, .int .i64 n1, .int .i64 0, .slice none 0 0, .slice none 0 0, .slice none 0 0, .slice none 0 0, .int .i64 0] 41 (0, 0)) :: cs)) H3 := h3
  refine h3.store 6 rfl (by simp) fun H4 h4 => ?_
  have h4 : HL.Holds (imgL m I d ++ (blk q (.cells #[.int .i64 ((I.prt.length : Int) + 1), .int .i64 n0, .int .i64 n1, .int .i64 n2, .slice none 0 0, .slice none 0 0, .slice none 0 0, .slice none 0 0, .int .i64 0] 41 (0, 0)) :: cs)) H4 := h4
  refine h4.store 6 rfl (by simp) fun H5 h5 => ?_
  have h5 : HL.Holds (imgL m I d ++ (blk q (.cells #[.int .i64 ((I.prt.length : Int) + 1), .int .i64 n0, .int .i64 n1, .int .i64 n2, .slice none 0 0, .slice none 0 0, .slice none 0 0, .slice none 0 0, .int .i64 0] 41 (0, 0)) :: cs)) H5 := h5
  refine h5.store 6 rfl (by simp) fun H6 h6 => ?_
  have h6 : HL.Holds (imgL m I d ++ (blk q (.cells #[.int .i64 ((I.prt.length : Int) + 1), .int .i64 n0, .int .i64 n1, .int .i64 n2, .slice none 0 0, .slice none 0 0, .slice none 0 0, .slice none 0 0, .int .i64 0] 41 (0, 0)) :: cs)) H6 := h6
  refine h6.store 6 rfl (by simp) fun H7 h7 => ?_
  have h7 : HL.Holds (imgL m I d ++ (blk q (.cells #[.int .i64 ((I.prt.length : Int) + 1), .int .i64 n0, .int .i64 n1, .int .i64 n2, .slice none 0 0, .slice none 0 0, .slice none 0 0, .slice none 0 0, .int .i64 0] 41 (0, 0)) :: cs)) H7 := h7
  refine h7.store 6 rfl (by simp) fun H8 h8 => ?_
  have h8 : HL.Holds (imgL m I d ++ (blk q (.cells #[.int .i64 ((I.prt.length : Int) + 1), .int .i64 n0, .int .i64 n1, .int .i64 n2, .slice none 0 0, .slice none 0 0, .slice none 0 0, .slice none 0 0, .int .i64 0] 41 (0, 0)) :: cs)) H8 := h8
  refine h8.store 6 rfl (by simp) fun H9 h9 => ?_
  have h9 : HL.Holds (imgL m I d ++ (blk q (.cells #[.int .i64 ((I.prt.length : Int) + 1), .int .i64 n0, .int .i64 n1, .int .i64 n2, .slice none 0 0, .slice none 0 0, .slice none 0 0, .slice none 0 0, .int .i64 n3] 41 (0, 0)) :: cs)) H9 := h9
  refine h9.new fun q1 G h10 => ?_
  have h11 : HL.Holds (ro d.A :: blk q1 (.cells #[.pointer (some ⟨q, 4, none⟩), .pointer (some ⟨q, 5, none⟩), .pointer (some ⟨q, 6, none⟩), .pointer (some ⟨q, 7, none⟩)] 88 (0, 0)) :: blk q (.cells (pcells ((I.prt.length : Int) + 1) n0 n1 n2 n3 []) 41 (0, 0)) :: (imgC m I d ++ cs)) G := by
    have g1 : HL.Holds (blk q1 (.cells #[.pointer (some ⟨q, 4, none⟩), .pointer (some ⟨q, 5, none⟩), .pointer (some ⟨q, 6, none⟩), .pointer (some ⟨q, 7, none⟩)] 88 (0, 0)) :: (imgL m I d ++ (blk q (.cells (pcells ((I.prt.length : Int) + 1) n0 n1 n2 n3 []) 41 (0, 0)) :: cs))) G := h10
    have g2 := (g1.pull 7 rfl).swap
    exact g2.pull 7 rfl
  clear h h1 h2 h3 h4 h5 h6 h7 h8 h9 h10
  refine ⟨fun n s b H' => ∃ (A : Heap) (V : List Sl) (L : List (List Int)), V.length = n.toNat ∧ L.length = n.toNat ∧ 0 ≤ n ∧ n ≤ 4 ∧ HL.Sub d.A A ∧ (∀ (j : Nat) (v : Sl) (y : List Int), V[j]? = some v → L[j]? = some y → Ints A v y) ∧ (∀ y ∈ L, y.length ≤ 7) ∧
      (∀ f : Part × List Nat → Option Im, go b0 ((rdL ((I.prt.length : Int) + 1) n0 n1 n2 n3 4 [] (nb s0)).bind f) = go b ((rdL ((I.prt.length : Int) + 1) n0 n1 n2 n3 (4 - n.toNat) L (nb s)).bind f)) ∧ (b0 = true → b = true) ∧ s.size ≤ s0.size ∧
      HL.Holds (ro A :: blk q1 (.cells #[.pointer (some ⟨q, 4, none⟩), .pointer (some ⟨q, 5, none⟩), .pointer (some ⟨q, 6, none⟩), .pointer (some ⟨q, 7, none⟩)] 88 (0, 0)) :: blk q (.cells (pcells ((I.prt.length : Int) + 1) n0 n1 n2 n3 V) 41 (0, 0)) :: (imgC m I d ++ cs)) H',
    fun n _ _ _ => (4 - n).toNat, ⟨d.A, [], [], rfl, rfl, Int.le_refl _, by decide, HL.Sub.refl _, fun j v y h => by simp at h, by simp, fun f => by rw [show (4 - (0 : Int).toNat : Nat) = 4 from rfl], id, Nat.le_refl _, h11⟩, ?_⟩
  clear h11
  rintro n s b G1 ⟨A, V, L, v1, l1, c0, c4, sA, hVL, hL7, hC, b0b, zs, h1⟩
  refine br_intro (fun w => ?_) (fun w => ?_)
  · have w := of_decide_eq_true w
    have w4 : n < 4 := by omega
    have hk : 4 - n.toNat = (4 - (n + 1).toNat) + 1 := by omega
    rw [wrap64_id (n := n + 1) (by omega) (by omega)]
    have hn : n = 0 ∨ n = 1 ∨ n = 2 ∨ n = 3 := by omega
    have step : ∀ {l : Sl} {x : List Int} {s' : ByteArray} {b' : Bool} {G2 : Heap} {A2 : Heap}, Trn (lstP 7 1 7) s b x s' b' → (x.length : Int) ≤ 7 → (b = true → b' = true) → s'.size ≤ s.size → HL.Sub A A2 → Ints A2 l x →
        HL.Holds (ro A2 :: blk q1 (.cells #[.pointer (some ⟨q, 4, none⟩), .pointer (some ⟨q, 5, none⟩), .pointer (some ⟨q, 6, none⟩), .pointer (some ⟨q, 7, none⟩)] 88 (0, 0)) :: blk q (.cells (pcells ((I.prt.length : Int) + 1) n0 n1 n2 n3 (V ++ [l])) 41 (0, 0)) :: (imgC m I d ++ cs)) G2 →
        (∃ (A : Heap) (V : List Sl) (L : List (List Int)), V.length = (n + 1).toNat ∧ L.length = (n + 1).toNat ∧ 0 ≤ n + 1 ∧ n + 1 ≤ 4 ∧ HL.Sub d.A A ∧ (∀ (j : Nat) (v : Sl) (y : List Int), V[j]? = some v → L[j]? = some y → Ints A v y) ∧ (∀ y ∈ L, y.length ≤ 7) ∧
          (∀ f : Part × List Nat → Option Im, go b0 ((rdL ((I.prt.length : Int) + 1) n0 n1 n2 n3 4 [] (nb s0)).bind f) = go b' ((rdL ((I.prt.length : Int) + 1) n0 n1 n2 n3 (4 - (n + 1).toNat) L (nb s')).bind f)) ∧ (b0 = true → b' = true) ∧ s'.size ≤ s0.size ∧
          HL.Holds (ro A :: blk q1 (.cells #[.pointer (some ⟨q, 4, none⟩), .pointer (some ⟨q, 5, none⟩), .pointer (some ⟨q, 6, none⟩), .pointer (some ⟨q, 7, none⟩)] 88 (0, 0)) :: blk q (.cells (pcells ((I.prt.length : Int) + 1) n0 n1 n2 n3 V) 41 (0, 0)) :: (imgC m I d ++ cs)) G2) := fun {l x s' b' G2 A2} t x7 bb zz sA2 hl hG => by
      refine ⟨A2, V ++ [l], L ++ [x], by rw [List.length_append]; show V.length + 1 = _; omega, by rw [List.length_append]; show L.length + 1 = _; omega, by omega, by omega, sA.trans sA2, (load_list (m := 0) (q := 0) (q1 := 0) (I := I) (d := d) (o := .cells #[] 0 (0, 0)) (k := 0) (C := go b ((rdL 0 0 0 0 0 (0 + 1) L (nb s)).bind fun _ => none)) (f := fun _ => none) (fun j v y e1 e2 => (hVL j v y e1 e2).sub sA2) (by omega) hl t rfl).1, fun y hy => ?_, fun f => ?_, fun e => bb (b0b e), by omega, hG⟩
      · rcases List.mem_append.1 hy with g | g
        · exact hL7 y g
        · rw [List.mem_singleton.1 g]; omega
      · have e := hC f
        rw [hk] at e
        exact (load_list (m := 0) (q := 0) (q1 := 0) (I := I) (d := d) (o := .cells #[] 0 (0, 0)) (fun j v y e1 e2 => (hVL j v y e1 e2).sub sA2) (by omega) hl t e).2
    rcases hn with rfl | rfl | rfl | rfl
    · obtain rfl : V = [] := List.eq_nil_of_length_eq_zero v1
      refine ⟨q1, 0, rfl, c0, w, some ⟨q, 4, none⟩, h1.cell 1 rfl rfl, list49L h1 (by omega) (by decide) fun l x s' b' G2 t x7 x8 bb zz h2 => ptrm_intro rfl (h2.store 3 rfl (by simp) fun G3 h3 => ?_)⟩
      obtain ⟨A2, sA2, o2, h4⟩ := into_store h3 Own.mono
      exact ⟨rfl, step t x7 bb zz sA2 (own_ints o2 (by omega)) h4, by dsimp only; decide⟩
    · obtain ⟨a0, rfl⟩ := len1 v1
      refine ⟨q1, 0, rfl, c0, w, some ⟨q, 5, none⟩, h1.cell 1 rfl rfl, list49L h1 (by omega) (by decide) fun l x s' b' G2 t x7 x8 bb zz h2 => ptrm_intro rfl (h2.store 3 rfl (by simp) fun G3 h3 => ?_)⟩
      obtain ⟨A2, sA2, o2, h4⟩ := into_store h3 Own.mono
      exact ⟨rfl, step t x7 bb zz sA2 (own_ints o2 (by omega)) h4, by dsimp only; decide⟩
    · obtain ⟨a0, a1, rfl⟩ := len2 v1
      refine ⟨q1, 0, rfl, c0, w, some ⟨q, 6, none⟩, h1.cell 1 rfl rfl, list49L h1 (by omega) (by decide) fun l x s' b' G2 t x7 x8 bb zz h2 => ptrm_intro rfl (h2.store 3 rfl (by simp) fun G3 h3 => ?_)⟩
      obtain ⟨A2, sA2, o2, h4⟩ := into_store h3 Own.mono
      exact ⟨rfl, step t x7 bb zz sA2 (own_ints o2 (by omega)) h4, by dsimp only; decide⟩
    · obtain ⟨a0, a1, a2, rfl⟩ := len3 v1
      refine ⟨q1, 0, rfl, c0, w, some ⟨q, 7, none⟩, h1.cell 1 rfl rfl, list49L h1 (by omega) (by decide) fun l x s' b' G2 t x7 x8 bb zz h2 => ptrm_intro rfl (h2.store 3 rfl (by simp) fun G3 h3 => ?_)⟩
      obtain ⟨A2, sA2, o2, h4⟩ := into_store h3 Own.mono
      exact ⟨rfl, step t x7 bb zz sA2 (own_ints o2 (by omega)) h4, by dsimp only; decide⟩
  · have w := of_decide_eq_false w
    have hn4 : n = 4 := by omega
    subst hn4
    obtain ⟨a0, a1, a2, a3, rfl⟩ := len4 v1
    obtain ⟨x0, x1, x2, x3, rfl⟩ := len4 l1
    have hv : PIn A ⟨(I.prt.length : Int) + 1, n0, n1, n2, a0, a1, a2, a3, n3⟩ (pOf ((I.prt.length : Int) + 1) n0 n1 n2 n3 [x0, x1, x2, x3]) := ⟨rfl, rfl, rfl, rfl, rfl, hVL 0 a0 x0 rfl rfl, hVL 1 a1 x1 rfl rfl, hVL 2 a2 x2 rfl rfl, hVL 3 a3 x3 rfl rfl⟩
    refine ⟨_, h1.cell 2 rfl rfl, _, h1.cell 2 rfl rfl, _, h1.cell 2 rfl rfl, _, h1.cell 2 rfl rfl, a0, h1.cell 2 rfl rfl, a1, h1.cell 2 rfl rfl, a2, h1.cell 2 rfl rfl, a3, h1.cell 2 rfl rfl, _, h1.cell 2 rfl rfl, ?_⟩
    refine in_store (Q := fun r _ => r = .bool (rightB (pOf ((I.prt.length : Int) + 1) n0 n1 n2 n3 [x0, x1, x2, x3]))) h1 (fun B K' sB kk => right_spec (v := ⟨(I.prt.length : Int) + 1, n0, n1, n2, a0, a1, a2, a3, n3⟩) (hv.sub sB) fun B' sB' => kk _ B' sB' rfl) fun r A2 G2 sA2 e2 h2 => ⟨_, e2, ?_⟩
    refine ask50L h2 fun G3 h3 => ptrm_intro rfl ⟨d.ps, h3.cell 3 rfl rfl, _, h3.cell 2 rfl rfl, _, h3.cell 2 rfl rfl, _, h3.cell 2 rfl rfl, _, h3.cell 2 rfl rfl, a0, h3.cell 2 rfl rfl, a1, h3.cell 2 rfl rfl, a2, h3.cell 2 rfl rfl, a3, h3.cell 2 rfl rfl, _, h3.cell 2 rfl rfl, ?_⟩
    have hR : Recs eP G3 d.ps d.vs := Own.recs ePlen (by decide) (h3.own 6 rfl) (by omega)
    have hrn := hR.len
    refine Holds.pushS okPart (HL.Sub.refl _) (h3.pull 6 rfl) (xs := eP ⟨(I.prt.length : Int) + 1, n0, n1, n2, a0, a1, a2, a3, n3⟩) (m := 1) rfl rfl (by omega) fun l8 G4 h4 n4 => ⟨l8, rfl, ptrm_intro rfl (h4.store 4 rfl (by simp) fun G5 h5 => ?_)⟩
    have ef : ∀ w : PV, d.vs.flatMap eP ++ eP w = (d.vs ++ [w]).flatMap eP := fun w => by simp
    rw [ef] at h5
    refine k (pOf ((I.prt.length : Int) + 1) n0 n1 n2 n3 [x0, x1, x2, x3]) s _ G5 (fun f => ?_) (fun e => ?_) (fun e => by rw [b0b e]; rfl) zs ?_
    · rw [hC f]
      show go b ((if rightB (pOf ((I.prt.length : Int) + 1) n0 n1 n2 n3 [x0, x1, x2, x3]) = true then some (pOf ((I.prt.length : Int) + 1) n0 n1 n2 n3 [x0, x1, x2, x3], nb s) else none : Option (Part × List Nat)).bind f) = _
      rw [← go_ask]
      congr 1
      split <;> rfl
    · rw [Bool.or_eq_false_iff] at e
      exact right_iff.1 (by simpa using e.2)
    · have g0 : HL.Holds (own 41 9 l8 ((d.vs ++ [(⟨(I.prt.length : Int) + 1, n0, n1, n2, a0, a1, a2, a3, n3⟩ : PV)]).flatMap eP) :: ro A2 :: blk q1 (.cells #[.pointer (some ⟨q, 4, none⟩), .pointer (some ⟨q, 5, none⟩), .pointer (some ⟨q, 6, none⟩), .pointer (some ⟨q, 7, none⟩)] 88 (0, 0)) :: blk q (.cells (pcells ((I.prt.length : Int) + 1) n0 n1 n2 n3 [a0, a1, a2, a3]) 41 (0, 0)) :: blk m (.cells #[.int .i64 I.app, .map (some d.mb), .slice d.ts.p d.ts.n d.ts.c, .slice l8.p l8.n l8.c, .slice d.rs.p d.rs.n d.rs.c] 70 (0, 0)) :: mp d.mb encI (bmap d.fs) :: own 74 3 d.ts (I.top.flatMap eT) :: own 3 1 d.rs (iv I.prd) :: cs) G5 := h5
      have g1 := ((g0.pull 2 rfl).tail.pull 2 rfl).tail
      have g2 := (g1.down 4)
      exact img_open.2 ⟨{ d with ps := l8, A := A2, vs := d.vs ++ [⟨(I.prt.length : Int) + 1, n0, n1, n2, a0, a1, a2, a3, n3⟩] }, ⟨hp, (hP.sub (sA.trans sA2)).snoc (hv.sub sA2)⟩, (g2.down 5)⟩
end
end Go.Proofs.YtmofinghoacobaaGreatDoor
namespace Go.Proofs.YtmofinghoacobaaGreatDoor
open Go Go.HL
set_option maxHeartbeats 6400000
set_option maxRecDepth 100000
theorem insL_last {B : Bs} {id : Int} {v : Int × Bool} (hs : SortedL ltI B) (h : ∀ x ∈ B, x.1 < id) : insL ltI B id v = B ++ [(id, v)] := by
  have hf : id ∉ B.map Prod.fst := fun q => by
    obtain ⟨x, hx, e⟩ := List.mem_map.1 q
    have := h x hx
    omega
  refine sorted_eq ltI_ok ?_ (insL_sorted ltI_ok hs) ?_
  · refine (insL_perm ltI_ok hs).trans ?_
    rw [delL_fresh hf]
    exact (List.perm_append_comm (l₁ := [(id, v)]) (l₂ := B))
  · exact List.pairwise_append.2 ⟨hs, List.pairwise_singleton _ _, fun x hx y hy => by
      rw [List.mem_singleton.1 hy]
      exact decide_eq_true (h x hx)⟩
def cD (a : Int) (B : Bs) (T : List Tp) (next : Int) (P : List Part) (l : List Nat) : Option Im := (lstP 1000 0 1000000000 l).bind fun D => if D.2 = [] ∧ next = (P.length : Int) + 1 then some ⟨a, B, T, P, D.1⟩ else none
def cP (a : Int) (B : Bs) (T : List Tp) (next : Int) (l : List Nat) : Option Im := (intP 0 16 l).bind fun np => (prtP np.1.toNat [] np.2).bind fun P => cD a B T next P.1 P.2
def cT (a : Int) (B : Bs) (l : List Nat) : Option Im := (intP 0 16 l).bind fun nt => (topP nt.1.toNat 1 [] nt.2).bind fun T => cP a B T.1 T.2.1 T.2.2
def cB (a : Int) (l : List Nat) : Option Im := (intP 0 7 l).bind fun n => (brkP n.1.toNat 0 [] n.2).bind fun B => cT a B.1 B.2
theorem bodyP_cB (l : List Nat) : bodyP l = (intP 0 9223372036854775807 l).bind fun a => cB a.1 a.2 := rfl
theorem strN_inj {a b : List Nat} (ha : ∀ x ∈ a, x < 256) (hb : ∀ x ∈ b, x < 256) : strN a = strN b ↔ a = b :=
  ⟨fun e => by rw [← nb_str ha, e, nb_str hb], fun e => by rw [e]⟩
section
variable {cs : List Chunk} {H Lo : Heap} {K : Value → Heap → Prop}
theorem newMid {m : Nat} {I : Im} {d : Pc} {o : Obj} {f : Nat → Heap → Prop} (h : HL.Holds (imgL m I d ++ cs) H) (k : ∀ b H1, HL.Sub H H1 → HL.Holds (imgL m I d ++ (blk b o :: cs)) H1 → f b H1) : ∀ b, H b = none → letH (H.upd b o) (f b) :=
  h.newS fun b H1 s h1 => k b H1 s (h1.down 6)
theorem topics48L {m : Nat} {s : ByteArray} {bad : Bool} {I : Im} {X : Int → ByteArray → Bool → Heap → Prop} (h : HL.Holds (img Lo m I :: cs) H) (hs : s.size ≤ 9223372036854775807) (hT : I.top = []) (hok : bad = false → ImOk I)
    (k : ∀ (next : Int) (T : List Tp) (s' : ByteArray) (bad' : Bool) H', (∀ f : List Tp × Int × List Nat → Option Im, go bad ((intP 0 16 (nb s)).bind fun n => (topP n.1.toNat 1 [] n.2).bind f) = go bad' (f (T, next, nb s'))) → T.length ≤ 16 → (bad' = false → ImOk { I with top := T }) → (bad = true → bad' = true) → s'.size ≤ s.size → (1 ≤ next ∧ next ≤ 1000) →
      HL.Holds (img Lo m { I with top := T } :: cs) H' → X next s' bad' H') :
    ∀ q, H q = none → FnH Tryz.prog 48 #[.pointer (some ⟨q, 0, none⟩), .pointer (some ⟨m, 0, none⟩)] (Heap.upd H q (.cells #[.string s, .bool bad] 86 (0, 0))) fun r H' => ∃ n : Int, r = .int .i64 n ∧ ∃ s2 : ByteArray, ∃ b : Bool, H' q = some (.cells #[.string s2, .bool b] 86 (0, 0)) ∧ letH (Heap.del H' q) fun H2 => X n s2 b H2 :=
  fun q hq => topics48 (h.add hq _) hs hT hok fun next T s' bad' H' e1 e2 e3 e4 e5 e6 h' => ⟨next, rfl, s', bad', (held_undo h').1, letH_intro fun H2 g => k next T s' bad' H2 e1 e2 e3 e4 e5 e6 (by rw [g]; exact (held_undo h').2)⟩
theorem int47LS {s : ByteArray} {bad : Bool} {a b : Int} {X : Int → ByteArray → Bool → Heap → Prop} (h : HL.Holds cs H) (hs : s.size ≤ 9223372036854775807)
    (k : ∀ (n : Int) (s' : ByteArray) (bad' : Bool) H', Trn (intP a b) s bad n s' bad' → (bad' = true ∧ n = 0) ∨ (bad' = false ∧ bad = false ∧ a ≤ n ∧ n ≤ b) → s'.size ≤ s.size → HL.Sub H H' → HL.Holds cs H' → X n s' bad' H') :
    ∀ q, H q = none → FnH Tryz.prog 47 #[.pointer (some ⟨q, 0, none⟩), .int .i64 a, .int .i64 b] (Heap.upd H q (.cells #[.string s, .bool bad] 86 (0, 0))) fun r H' => ∃ n : Int, r = .int .i64 n ∧ ∃ s2 : ByteArray, ∃ b : Bool, H' q = some (.cells #[.string s2, .bool b] 86 (0, 0)) ∧ letH (Heap.del H' q) fun H2 => X n s2 b H2 :=
  int47L (Holds.whole H) hs fun n s' b' H' t c z h' => k n s' b' H' t c z (h'.sub 0 rfl) (h.up (h'.sub 0 rfl))
theorem load_spec {s : ByteArray} (h : HL.Holds (ro Lo :: cs) H) (hs : s.size ≤ 9223372036854775807) (k0 : loadP (nb s) = none → ∀ Lo' H', HL.Sub Lo Lo' → HL.Holds (ro Lo' :: cs) H' → K (.tuple #[.pointer none, .int .i64 4]) H')
    (k1 : ∀ I, loadP (nb s) = some I → ∀ m H', HL.Holds (img Lo m I :: cs) H' → K (.tuple #[.pointer (some ⟨m, 0, none⟩), .int .i64 0]) H') : FnH Tryz.prog 21 #[.string s] H K := by
  apply meta_Load_fn
  unfold meta_Load_vc
  have hsz := nb_len s
  refine br_intro (fun w => ?_) (fun w => ?_)
  · have w := of_decide_eq_true w
    exact k0 (by unfold loadP; rw [if_pos (.inl (by omega))]) Lo H (HL.Sub.refl _) h
  have w := of_decide_eq_false w
  have e4 := ext_drop (s := s) (n := 4)
  have t4 := ext_take (s := s) (n := 4) (by decide) (by omega)
  obtain ⟨s4, es4⟩ : ∃ s4, s4 = s.extract (Int.toNat 4) (Int.toNat (s.size : Int)) := ⟨_, rfl⟩
  rw [← es4] at e4 ⊢
  have hs4 : s4.size ≤ s.size := by rw [← nb_len, e4, List.length_drop, hsz]; omega
  have e4 : nb s4 = (nb s).drop 4 := e4
  refine ⟨by decide, by omega, by decide, by omega, crc_spec (by omega) ⟨_, rfl, HL.Sub.refl _, four43 (crcN_lt _ (nb_byte s4)) fun H2 s2 => ⟨_, rfl, s2, ?_⟩⟩⟩
  rw [t4, str_eq, e4]
  have hinj := strN_inj (fourN_bytes (crcN ((nb s).drop 4))) (b := (nb s).take (Int.toNat 4)) fun b hb => nb_byte s b (List.mem_of_mem_take hb)
  refine br_intro (fun y => ?_) (fun y => ?_)
  · have y : ¬ strN (fourN (crcN ((nb s).drop 4))) = strN ((nb s).take (Int.toNat 4)) := by simpa using y
    exact k0 (by unfold loadP; rw [if_pos (.inr fun e => y (hinj.2 e))]) Lo H2 (HL.Sub.refl _) (h.up s2)
  have y : strN (fourN (crcN ((nb s).drop 4))) = strN ((nb s).take (Int.toNat 4)) := by simpa using y
  obtain ⟨R, eR⟩ : ∃ R, R = loadP (nb s) := ⟨_, rfl⟩
  have hR : R = bodyP (nb s4) := by
    rw [eR, e4]
    unfold loadP
    rw [if_neg (by
      rintro (q | q)
      · omega
      · exact q (hinj.1 y))]
  rw [← eR] at k0 k1
  have bad0 : ∀ {m : Nat} {J : Im} {H' : Heap}, R = none → HL.Holds (img Lo m J :: cs) H' → K (.tuple #[.pointer none, .int .i64 4]) H' := fun {m J H'} e h' => by
    obtain ⟨A, sA, h2⟩ := img_unpack h'
    exact k0 e A H' sA h2.tail
  clear k0 hinj y eR
  refine ⟨by decide, by omega, new12_spec (h.up s2) fun m H3 h3 => ⟨_, rfl, int47L h3 (by omega) fun a s1 b1 H4 ta ca za h4 => ptrm_intro rfl ?_⟩⟩
  obtain ⟨d0, ⟨hp0, hP0⟩, h5⟩ := img_open.1 h4
  refine h5.store 0 rfl (by simp) fun H5 h6 => ?_
  have h7 : HL.Holds (img Lo m ⟨a, [], [], [], []⟩ :: cs) H5 := img_open.2 ⟨d0, ⟨hp0, hP0⟩, h6⟩
  have hC1 : R = go b1 (cB a (nb s1)) := by
    rw [hR, bodyP_cB]
    exact ta fun x => cB x.1 x.2
  clear hR h5 h6 h4 h3 h
  refine ⟨fun s' b H' => ∃ B : Bs, R = go b (cT a B (nb s')) ∧ (b = false → ImOk ⟨a, B, [], [], []⟩) ∧ s'.size ≤ s.size ∧ HL.Holds (img Lo m ⟨a, B, [], [], []⟩ :: cs) H', int47L h7 (by omega) fun n s2 b2 H6 tn cn zn h8 => ?_, ?_⟩
  · have hC2 : R = go b2 ((brkP n.toNat 0 [] (nb s2)).bind fun B => cT a B.1 B.2) := by
      rw [hC1]
      exact tn fun n => (brkP n.1.toNat 0 [] n.2).bind fun B => cT a B.1 B.2
    refine ⟨fun last n s' b H' => ∃ B : Bs, (0 ≤ n ∧ n ≤ 7) ∧ (0 ≤ last ∧ last ≤ 7) ∧ SortedL ltI B ∧ (b = false → (∀ x ∈ B, x.1 ≤ last) ∧ ∀ x ∈ B, 1 ≤ x.1 ∧ x.1 ≤ 7 ∧ 1 ≤ x.2.1 ∧ x.2.1 ≤ 1000000000) ∧ R = go b ((brkP n.toNat last B (nb s')).bind fun B => cT a B.1 B.2) ∧ s'.size ≤ s.size ∧ HL.Holds (img Lo m ⟨a, B, [], [], []⟩ :: cs) H',
      fun _ n _ _ _ => n.toNat, ⟨[], by omega, by omega, List.Pairwise.nil, fun _ => ⟨by simp, by simp⟩, hC2, by omega, h8⟩, ?_⟩
    clear hC2 h8 h7
    rintro last n s3 b3 H7 ⟨B, n0, l0, hS, hB, hC, hz, h⟩
    have out : n ≤ 0 ∨ b3 = true → ∃ B : Bs, R = go b3 (cT a B (nb s3)) ∧ (b3 = false → ImOk ⟨a, B, [], [], []⟩) ∧ s3.size ≤ s.size ∧ HL.Holds (img Lo m ⟨a, B, [], [], []⟩ :: cs) H7 := fun e => by
      refine ⟨B, ?_, fun e => ⟨hS, (hB e).2, by simp, by simp, by simp, by simp, by simp, by simp⟩, hz, h⟩
      rw [hC]
      rcases e with e | e
      · have : n.toNat = 0 := by omega
        rw [this]; rfl
      · rw [e]; rfl
    refine br_intro (fun v => br_intro (fun y => ?_) (fun y => ⟨rfl, out (.inr (by simpa using y))⟩)) (fun v => ⟨rfl, out (.inl (by have := of_decide_eq_false v; omega))⟩)
    have v := of_decide_eq_true v
    have y : b3 = false := by simpa using y
    subst y
    clear out
    have hnn : n.toNat = (n - 1).toNat + 1 := by omega
    rw [wrap64_id (n := last + 1) (by omega) (by omega), wrap64_id (n := n - 1) (by omega) (by omega)]
    refine int47L h (by omega) fun id s5 b5 H8 t5 c5 z5 h => int47L h (by omega) fun life s6 b6 H9 t6 c6 z6 h => ptrm_intro rfl ?_
    have fin : ∀ {u : Int} {s7 : ByteArray} {b7 : Bool} {H10 : Heap}, Trn (intP 0 1) s6 b6 u s7 b7 → (b7 = true ∧ u = 0) ∨ (b7 = false ∧ b6 = false ∧ 0 ≤ u ∧ u ≤ 1) → s7.size ≤ s6.size → HL.Holds (img Lo m ⟨a, insL ltI B id (life, (u == 1)), [], [], []⟩ :: cs) H10 →
        (∃ B : Bs, (0 ≤ n - 1 ∧ n - 1 ≤ 7) ∧ (0 ≤ id ∧ id ≤ 7) ∧ SortedL ltI B ∧ (b7 = false → (∀ x ∈ B, x.1 ≤ id) ∧ ∀ x ∈ B, 1 ≤ x.1 ∧ x.1 ≤ 7 ∧ 1 ≤ x.2.1 ∧ x.2.1 ≤ 1000000000) ∧ R = go b7 ((brkP (n - 1).toNat id B (nb s7)).bind fun B => cT a B.1 B.2) ∧ s7.size ≤ s.size ∧ HL.Holds (img Lo m ⟨a, B, [], [], []⟩ :: cs) H10) := fun {u s7 b7 H10} t7 c7 z7 h10 => by
      have good : b7 = false → (b6 = false ∧ b5 = false) ∧ (last + 1 ≤ id ∧ id ≤ 7) ∧ (1 ≤ life ∧ life ≤ 1000000000) := fun e => by
        have e6 : b6 = false := by rcases c7 with ⟨c, -⟩ | ⟨-, c, -⟩
                                   · rw [e] at c; cases c
                                   · exact c
        have e5 : b5 = false := by rcases c6 with ⟨c, -⟩ | ⟨-, c, -⟩
                                   · rw [e6] at c; cases c
                                   · exact c
        refine ⟨⟨e6, e5⟩, ?_, ?_⟩
        · rcases c5 with ⟨c, -⟩ | ⟨-, -, c⟩
          · rw [e5] at c; cases c
          · exact c
        · rcases c6 with ⟨c, -⟩ | ⟨-, -, c⟩
          · rw [e6] at c; cases c
          · exact c
      refine ⟨insL ltI B id (life, (u == 1)), by omega, by omega, insL_sorted ltI_ok hS, fun e => ?_, ?_, by omega, h10⟩
      · obtain ⟨-, g1, g2⟩ := good e
        obtain ⟨hB1, hB2⟩ := hB rfl
        refine ⟨fun x hx => ?_, fun x hx => ?_⟩
        · rcases insL_keys hx with rfl | hx
          · exact Int.le_refl _
          · have := hB1 x hx; omega
        · rcases insL_keys hx with rfl | hx
          · show 1 ≤ id ∧ id ≤ 7 ∧ 1 ≤ life ∧ life ≤ 1000000000; omega
          · exact hB2 x hx
      · rw [hC, hnn]
        have e1 : (brkP ((n - 1).toNat + 1) last B (nb s3)).bind (fun B => cT a B.1 B.2) = (intP (last + 1) 7 (nb s3)).bind fun i => (intP 1 1000000000 i.2).bind fun f => (intP 0 1 f.2).bind fun u => (brkP (n - 1).toNat i.1 (B ++ [(i.1, f.1, decide (u.1 = 1))]) u.2).bind fun B => cT a B.1 B.2 := by
          show ((intP (last + 1) 7 (nb s3)).bind fun i => (intP 1 1000000000 i.2).bind fun f => (intP 0 1 f.2).bind fun u => brkP (n - 1).toNat i.1 (B ++ [(i.1, f.1, decide (u.1 = 1))]) u.2).bind _ = _
          simp only [Option.bind_assoc]
        rw [e1, t5, t6, t7]
        cases hb7 : b7 with
        | true => rfl
        | false =>
          obtain ⟨-, g1, g2⟩ := good hb7
          obtain ⟨hB1, hB2⟩ := hB rfl
          rw [insL_last hS fun x hx => by have := hB1 x hx; omega]
          have eb : decide (u = 1) = (u == 1) := by rw [Bool.eq_iff_iff]; simp
          rw [eb]
    refine ⟨?_, ?_⟩
    · obtain ⟨d, ⟨hp, hP⟩, h⟩ := img_open.1 h
      refine ⟨some d.mb, h.cell 0 rfl rfl, HL.Sub.refl _, int47L h (by omega) fun u s7 b7 H10 t7 c7 z7 h => ?_⟩
      exact put_brk (v := (life, (u == 1))) hS hp hP h rfl fun H11 h => ⟨rfl, fin t7 c7 z7 h, by dsimp only; omega⟩
    · refine int47L h (by omega) fun u s7 b7 H10 t7 c7 z7 h => ?_
      obtain ⟨d, ⟨hp, hP⟩, h⟩ := img_open.1 h
      exact ⟨some d.mb, h.cell 0 rfl rfl, put_brk (v := (life, (u == 1))) hS hp hP h rfl fun H11 h => ⟨rfl, fin t7 c7 z7 h, by dsimp only; omega⟩⟩
  clear h7 hC1
  rintro s3 b3 H6 ⟨B, hC, hok, hz, h⟩
  refine topics48L h (by omega) rfl hok fun next T s5 b5 H7 hT1 hT2 hT3 hT4 z5 hnx h => ?_
  have hC2 : R = go b5 (cP a B T next (nb s5)) := by
    rw [hC]
    exact hT1 fun T => cP a B T.1 T.2.1 T.2.2
  clear hC hT1 hok
  refine ⟨fun s' b H' => ∃ P : List Part, R = go b (cD a B T next P (nb s')) ∧ P.length ≤ 16 ∧ s'.size ≤ s.size ∧ HL.Holds (img Lo m ⟨a, B, T, P, []⟩ :: cs) H', int47L h (by omega) fun np s6 b6 H8 t6 c6 z6 h => ?_, ?_⟩
  · have hC3 : R = go b6 ((prtP np.toNat [] (nb s6)).bind fun P => cD a B T next P.1 P.2) := by
      rw [hC2]
      exact t6 fun np => (prtP np.1.toNat [] np.2).bind fun P => cD a B T next P.1 P.2
    refine ⟨fun n s' b H' => ∃ P : List Part, 0 ≤ n ∧ n + P.length ≤ 16 ∧ R = go b ((prtP n.toNat P (nb s')).bind fun P => cD a B T next P.1 P.2) ∧ s'.size ≤ s.size ∧ HL.Holds (img Lo m ⟨a, B, T, P, []⟩ :: cs) H',
      fun n _ _ _ => n.toNat, ⟨[], by omega, by simp; omega, hC3, by omega, h⟩, ?_⟩
    clear hC3 h
    rintro n s7 b7 H9 ⟨P, n0, n1, hC, z7, h⟩
    have out : n ≤ 0 ∨ b7 = true → ∃ P : List Part, R = go b7 (cD a B T next P (nb s7)) ∧ P.length ≤ 16 ∧ s7.size ≤ s.size ∧ HL.Holds (img Lo m ⟨a, B, T, P, []⟩ :: cs) H9 := fun e => by
      refine ⟨P, ?_, by omega, z7, h⟩
      rw [hC]
      rcases e with e | e
      · have : n.toNat = 0 := by omega
        rw [this]; rfl
      · rw [e]; rfl
    refine br_intro (fun v => br_intro (fun y => ?_) (fun y => ⟨rfl, out (.inr (by simpa using y))⟩)) (fun v => ⟨rfl, out (.inl (by have := of_decide_eq_false v; omega))⟩)
    have v := of_decide_eq_true v
    have y : b7 = false := by simpa using y
    subst y
    clear out
    have hnn : n.toNat = (n - 1).toNat + 1 := by omega
    have hC5 : R = go false ((oneP ((P.length : Int) + 1) (nb s7)).bind fun p => (prtP (n - 1).toNat (P ++ [p.1]) p.2).bind fun P => cD a B T next P.1 P.2) := by
      rw [hC, hnn]
      show go false (((oneP ((P.length : Int) + 1) (nb s7)).bind fun p => prtP (n - 1).toNat (P ++ [p.1]) p.2).bind _) = _
      rw [Option.bind_assoc]
    clear hC
    rw [oneP_rd] at hC5
    simp only [Option.bind_assoc] at hC5
    rw [wrap64_id (n := n - 1) (by omega) (by omega)]
    obtain ⟨d, ⟨hp, hP⟩, h⟩ := img_open.1 h
    have hdl : d.ps.n = P.length := by
      have hvl : d.vs.length = P.length := hP.1
      have hRc : Recs eP H9 d.ps d.vs := Own.recs ePlen (by decide) (h.own 3 rfl) (by omega)
      rw [hRc.len, hvl]
    refine ptrm_intro rfl ⟨d.ps, h.cell 0 rfl rfl, ?_⟩
    have sG : HL.Sub H9 H9 := HL.Sub.refl _
    repeat' first
      | exact ptail (I := ⟨a, B, T, P, []⟩) h hp hP hdl (show P.length ≤ 15 by omega) (by omega) fun p s' b' H' f1 f2 f3 f4 h => ⟨rfl, ⟨P ++ [p], by omega, by rw [List.length_append]; show n - 1 + ((P.length + 1 : Nat) : Int) ≤ 16; omega, hC5.trans (f1 fun p => (prtP (n - 1).toNat (P ++ [p.1]) p.2).bind fun P => cD a B T next P.1 P.2), by omega, h⟩, by dsimp only; omega⟩
      | refine ⟨sG, ?_⟩
      | (refine int47LS h (by omega) (fun v b e H t c y s h => ?_); rw [t] at hC5; have sG := sG.trans s)
      | (refine newMid h (fun q H s h => ?_); have sG := sG.trans s)
      | refine ⟨?_, ?_⟩
      | fail
  clear hC2 h
  rintro s7 b7 H9 ⟨P, hC, hPl, z7, h⟩
  refine list49L h (by omega) (by decide) fun l D s8 b8 H10 t8 d1 d2 d3 z8 h => ptrm_intro rfl ?_
  have hC2 : R = go b8 (if nb s8 = [] ∧ next = (P.length : Int) + 1 then some ⟨a, B, T, P, D⟩ else none) := by
    rw [hC]
    exact t8 fun D => if D.2 = [] ∧ next = (P.length : Int) + 1 then some ⟨a, B, T, P, D.1⟩ else none
  obtain ⟨d, ⟨hp, hP⟩, h⟩ := img_open.1 h.swap
  refine h.store 0 rfl (by simp) fun H11 h => ?_
  have h12 : HL.Holds (img Lo m ⟨a, B, T, P, D⟩ :: cs) H11 := by
    have g0 : HL.Holds (blk m (.cells #[.int .i64 a, .map (some d.mb), .slice d.ts.p d.ts.n d.ts.c, .slice d.ps.p d.ps.n d.ps.c, .slice l.p l.n l.c] 70 (0, 0)) :: mp d.mb encI (bmap d.fs) :: own 74 3 d.ts (T.flatMap eT) :: own 41 9 d.ps (d.vs.flatMap eP) :: own 3 1 d.rs (iv []) :: ro d.A :: own 3 1 l (iv D) :: cs) H11 := h
    have g1 := ((g0.pull 4 rfl).tail.pull 5 rfl).down 4
    exact img_open.2 ⟨{ d with rs := l }, ⟨hp, hP⟩, g1⟩
  refine br_intro (fun y => bad0 (by rw [hC2, y]; rfl) h12) (fun y => ?_)
  subst y
  have hC3 : R = if nb s8 = [] ∧ next = (P.length : Int) + 1 then some ⟨a, B, T, P, D⟩ else none := hC2
  rw [bytes_nil]
  have hnil : nb s8 = [] ↔ s8.size = 0 := by rw [← nb_len]; exact List.length_eq_zero_iff.symm
  refine br_intro (fun y => bad0 (by rw [hC3, if_neg (fun q => by rw [hnil.1 q.1] at y; cases y)]) h12) (fun y => ?_)
  have y : s8.size = 0 := by simpa using y
  refine ptrm_intro rfl ?_
  obtain ⟨d', ⟨hp', hP'⟩, h13⟩ := img_open.1 h12
  have hvl : d'.vs.length = P.length := hP'.1
  have hRc : Recs eP H11 d'.ps d'.vs := Own.recs ePlen (by decide) (h13.own 3 rfl) (by omega)
  have hrn := hRc.len
  refine ⟨d'.ps, h13.cell 0 rfl rfl, ?_⟩
  rw [hrn, hvl, wrap64_id (n := (P.length : Int) + 1) (by omega) (by omega)]
  refine br_intro (fun z => bad0 (by rw [hC3, if_neg (fun q => by rw [q.2] at z; simp at z)]) h12) (fun z => ?_)
  have z : next = (P.length : Int) + 1 := by simpa using z
  exact k1 _ (by rw [hC3, if_pos ⟨hnil.2 y, z⟩]) m H11 h12
end
end Go.Proofs.YtmofinghoacobaaGreatDoor
