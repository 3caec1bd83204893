/- strings.Builder: copyCheck (by the kit's walk), WriteString, String. -/
import Derived.Shelf.Strings.BuilderX
import Derived.Lib.Builder
import Derived.Lib.Walk
import Derived.WalkKit
import Derived.Laws.Externs
import Derived.Test.YtdgmifbcbmndgaaGreatDoorV1
import Derived.Test.YtdgmifbcbmndgaaGreatDoorWr
import Derived.Test.YtdgmifbcbmndgaaGreatDoorHlBuild
namespace Go.Proofs.YtdgmifbcbmndgaaGreatDoor
open Go Go.HL Go.RowKit
set_option maxHeartbeats 1000000
set_option maxRecDepth 100000
theorem bsize : (Tryz.prog.info? 92).map (·.size) = some 2 := by kernel_rfl
theorem blies : liesAt Tryz.prog Tryz.prog.depth 92 (2 / Tryz.prog.cellsOf 92) 0 92 1 = true := by kernel_rfl
theorem copy_used (b : Nat) (w : World) (h0 : w.cell? ⟨b, 0, none⟩ = some (.pointer (some ⟨b, 0, none⟩))) :
    Calls Tryz.prog 60 #[.pointer (some ⟨b, 0, none⟩)] w fun e w' => e = .returned (.tuple #[]) ∧ w' = w := by
  obtain ⟨j, hj, _⟩ := Option.map_eq_some_iff.1 bsize
  go_enter Tryz.func60, Tryz.ntmps60
  go_wp2
  rw [Lib.run_neq_ptr_same w _ Tryz.underlying89 hj]
  go_wp2
  go_end0
  exact ⟨rfl, rfl⟩
theorem copy_fresh (b : Nat) (w : World) (h0 : w.cell? ⟨b, 0, none⟩ = some (.pointer none)) (hsh : w.shape? b = some (92, 2)) (hfz : w.frozen? ⟨b, 0, none⟩ = false) :
    Calls Tryz.prog 60 #[.pointer (some ⟨b, 0, none⟩)] w fun e w' => e = .returned (.tuple #[]) ∧ w' = w.setCell ⟨b, 0, none⟩ (.pointer (some ⟨b, 0, none⟩)) := by
  obtain ⟨j, hj, hjs⟩ := Option.map_eq_some_iff.1 bsize
  go_enter Tryz.func60, Tryz.ntmps60
  go_wp2
  rw [Lib.run_to_unsafe w ⟨b, 0, none⟩ Tryz.underlying89 Tryz.underlying116 hj (by rw [hjs]; decide) hsh (Nat.zero_lt_succ 1)]
  simp only [Result.andThen]
  rw [Oper.upon_value]
  go_wp2
  rw [run_callFunc_extern Tryz.func73 (by kernel_rfl) (by kernel_rfl) (by kernel_rfl) (e := Extern.AbiNoEscape.same) (by kernel_rfl)]
  rw [Lib.run_noEscape]
  simp only [Result.andThen]
  rw [Oper.upon_value]
  go_wp2
  rw [Lib.run_from_unsafe w ⟨b, 0, none⟩ Tryz.underlying116 Tryz.underlying89 hj hsh blies]
  simp only [Result.andThen]
  rw [Oper.upon_value]
  go_wp2
  go_end0
  exact ⟨rfl, rfl⟩

theorem Holds.setBlk {cs : List Chunk} {H : Heap} {b : Nat} {arr : Array Value} {T : Nat} (h : HL.Holds (blk b (.cells arr T (0, 0)) :: cs) H) (o : Nat) (v : Value) : HL.Holds (blk b (.cells (arr.setIfInBounds o v) T (0, 0)) :: cs) (H.set ⟨b, o, none⟩ v) := by
  rw [Heap.set_block (h.get 0 rfl)]
  exact h.upd _
theorem copyCheck_spec {cs : List Chunk} {H : Heap} {q : Nat} {p : Option Addr} {s : Sl} {K : Value → Heap → Prop} (h : HL.Holds (blk q (.cells #[.pointer p, .slice s.p s.n s.c] 92 (0, 0)) :: cs) H) (hp : p = none ∨ p = some ⟨q, 0, none⟩)
    (k : ∀ H', HL.Holds (blk q (.cells #[.pointer (some ⟨q, 0, none⟩), .slice s.p s.n s.c] 92 (0, 0)) :: cs) H' → K (.tuple #[]) H') : FnH Tryz.prog 60 #[.pointer (some ⟨q, 0, none⟩)] H K := by
  intro R w hf
  have hq := hf.own _ _ (h.get 0 rfl)
  rcases hp with rfl | rfl
  · refine (copy_fresh q w (by simp [World.cell?, hq]) (by simp [World.shape?, hq]) (by simp [World.frozen?, hq])).mono ?_
    rintro e w' ⟨rfl, rfl⟩
    exact ⟨_, _, rfl, hf.store (h.cell 0 rfl rfl), Calm.store _ _ _, k _ (Holds.setBlk h 0 _)⟩
  · refine (copy_used q w (by simp [World.cell?, hq])).mono ?_
    rintro e w' ⟨rfl, rfl⟩
    exact ⟨_, H, rfl, hf, Calm.refl _, k _ h⟩
/-- A builder that holds some bytes, to be written on. -/
def bldW (q : Nat) (L : List Nat) : Chunk := fun H => ∃ x : Option Addr × Sl, (x.1 = none ∨ x.1 = some ⟨q, 0, none⟩) ∧ HL.Holds [blk q (.cells #[.pointer x.1, .slice x.2.p x.2.n x.2.c] 92 (0, 0)), ownY x.2 L] H
/-- A builder that holds some bytes, to be read. -/
def bldR (q : Nat) (L : List Nat) : Chunk := fun H => ∃ x : (Value × Nat × Nat) × Array Value × (Nat × Nat), (L.length ≤ x.1.2.2 ∧ L.length ≤ x.2.1.size ∧ x.1.2.2 ≠ 0 ∧ ∀ i (h : i < L.length), x.2.1[i]? = some (.int .u8 (L[i] : Int))) ∧
  HL.Holds [blk q (.cells #[x.1.1, .slice (some ⟨x.1.2.1, 0, none⟩) L.length x.1.2.2] 92 (0, 0)), blk x.1.2.1 (.cells x.2.1 5 x.2.2)] H
theorem bldW_open {cs : List Chunk} {H : Heap} {q : Nat} {L : List Nat} : HL.Holds (bldW q L :: cs) H ↔ ∃ p s, (p = none ∨ p = some ⟨q, 0, none⟩) ∧ HL.Holds (blk q (.cells #[.pointer p, .slice s.p s.n s.c] 92 (0, 0)) :: ownY s L :: cs) H := by
  unfold bldW
  rw [Holds.ex]
  constructor
  · rintro ⟨⟨p, s⟩, h⟩
    obtain ⟨e, h⟩ := Holds.pure.1 h
    exact ⟨p, s, e, Holds.flat.1 h⟩
  · rintro ⟨p, s, e, h⟩
    exact ⟨(p, s), Holds.pure.2 ⟨e, Holds.flat.2 h⟩⟩
theorem bldR_open {cs : List Chunk} {H : Heap} {q : Nat} {L : List Nat} : HL.Holds (bldR q L :: cs) H ↔ ∃ v g c arr fz, (L.length ≤ c ∧ L.length ≤ arr.size ∧ c ≠ 0 ∧ ∀ i (h : i < L.length), arr[i]? = some (.int .u8 (L[i] : Int))) ∧
    HL.Holds (blk q (.cells #[v, .slice (some ⟨g, 0, none⟩) L.length c] 92 (0, 0)) :: blk g (.cells arr 5 fz) :: cs) H := by
  unfold bldR
  rw [Holds.ex]
  constructor
  · rintro ⟨⟨⟨v, g, c⟩, arr, fz⟩, h⟩
    obtain ⟨e, h⟩ := Holds.pure.1 h
    exact ⟨v, g, c, arr, fz, e, Holds.flat.1 h⟩
  · rintro ⟨v, g, c, arr, fz, e, h⟩
    exact ⟨⟨⟨v, g, c⟩, arr, fz⟩, Holds.pure.2 ⟨e, Holds.flat.2 h⟩⟩
theorem bldW_read {cs : List Chunk} {H : Heap} {q : Nat} {L : List Nat} (hL : L ≠ []) (h : HL.Holds (bldW q L :: cs) H) : HL.Holds (bldR q L :: cs) H := by
  obtain ⟨p, s, -, h⟩ := bldW_open.1 h
  have ho := h.own 1 rfl
  have hl := ho.1
  have hc := ho.2.1
  simp only [List.length_map, Nat.mul_one] at hl
  have hpos : 0 < L.length := List.length_pos_iff.2 hL
  obtain ⟨g, arr, hp, -, hs, ha⟩ := ho.some_ (by omega)
  rw [Nat.mul_one] at hs
  have h2 : HL.Holds (blk q (.cells #[.pointer p, .slice (some ⟨g, 0, none⟩) L.length s.c] 92 (0, 0)) :: ownY s L :: cs) H := by rw [hl, ← hp]; exact h
  obtain ⟨A, B, e1, d, pA, qB⟩ := h2.swap
  obtain ⟨p1, p2, p3⟩ := pA
  rcases p3 with ⟨x, -⟩ | ⟨g2, arr2, x, hg2, hs2, ha2⟩
  · rw [x] at hp; cases hp
  · rw [x] at hp
    simp only [Option.some.injEq, Addr.mk.injEq, and_true] at hp
    subst hp
    have h3 : HL.Holds (blk g2 (.cells arr2 5 (0, 0)) :: blk q (.cells #[.pointer p, .slice (some ⟨g2, 0, none⟩) L.length s.c] 92 (0, 0)) :: cs) H := ⟨A, B, e1, d, hg2, qB⟩
    refine bldR_open.2 ⟨.pointer p, g2, s.c, arr2, (0, 0), ⟨by omega, by rw [hs2]; omega, by omega, fun i hi => ?_⟩, h3.swap⟩
    have := ha2 i (by simpa using hi)
    rw [this]; simp
theorem bldW_new {cs : List Chunk} {H : Heap} {q : Nat} (h : HL.Holds (blk q (.cells #[.pointer none, .slice none 0 0] 92 (0, 0)) :: cs) H) : HL.Holds (bldW q [] :: cs) H :=
  bldW_open.2 ⟨none, ⟨none, 0, 0⟩, .inl rfl, (h.own_nil 5 1).swap⟩
theorem bwrite_spec {cs : List Chunk} {H : Heap} {q : Nat} {L M : List Nat} {K : Value → Heap → Prop} (h : HL.Holds (bldW q L :: cs) H) (hM : ∀ b ∈ M, b < 256) (hb : L.length + M.length ≤ 268435456) (k : ∀ n H', HL.Holds (bldW q (L ++ M) :: cs) H' → K (.tuple #[.int .i64 n, Value.nilIface]) H') :
    FnH Tryz.prog 48 #[.pointer (some ⟨q, 0, none⟩), .string (strN M)] H K := by
  apply strings_Builder_WriteString_fn
  unfold strings_Builder_WriteString_vc
  obtain ⟨p, s, hp, h1⟩ := bldW_open.1 h
  refine copyCheck_spec h1 hp fun H1 h2 => ⟨rfl, s, h2.cell 0 rfl rfl, ?_⟩
  have hn := (h2.own 1 rfl).1
  simp only [List.length_map, Nat.mul_one] at hn
  have hM2 : (strN M).size = M.length := by rw [← nb_len, nb_str hM]
  refine Holds.appendStr okBy uStr h2.swap (by rw [hM2]; omega) fun r H2 h3 n3 => ⟨r, rfl, ?_⟩
  refine h3.store 1 rfl (by simp) fun H3 h4 => k _ H3 (bldW_open.2 ⟨some ⟨q, 0, none⟩, r, .inr rfl, ?_⟩)
  have e : byV (L ++ M) = byV L ++ strV (strN M) := by rw [strV_str hM]; simp
  have h4 : HL.Holds (own 5 1 r (byV L ++ strV (strN M)) :: blk q (.cells #[.pointer (some ⟨q, 0, none⟩), .slice r.p r.n r.c] 92 (0, 0)) :: cs) H3 := h4
  show HL.Holds (blk q (.cells #[.pointer (some ⟨q, 0, none⟩), .slice r.p r.n r.c] 92 (0, 0)) :: own 5 1 r (byV (L ++ M)) :: cs) H3
  rw [e]; exact h4.swap
theorem bstr_spec {cs : List Chunk} {H : Heap} {q : Nat} {L : List Nat} {K : Value → Heap → Prop} (h : HL.Holds (bldR q L :: cs) H) (hL : ∀ b ∈ L, b < 256) (h0 : L ≠ []) (hl : L.length ≤ 268435456) (k : ∀ H', HL.Holds (bldR q L :: cs) H' → K (.string (strN L)) H') :
    FnH Tryz.prog 52 #[.pointer (some ⟨q, 0, none⟩)] H K := by
  apply strings_Builder_String_fn
  unfold strings_Builder_String_vc
  obtain ⟨v, g, c, arr, fz, ⟨a1, a2, a3, a4⟩, h1⟩ := bldR_open.1 h
  have hsz : (strN L).size = L.length := by rw [← nb_len, nb_str hL]
  have hpos : 0 < L.length := List.length_pos_iff.2 h0
  have hpt : Tryz.prog.underlying 110 = some (.pointer 5) := by kernel_rfl
  have fin : runH Tryz.prog (Builtin.unsafeString_ #[110, 3] 9 #[.pointer (some ⟨g, 0, none⟩), .int .i64 ((L.length : Nat) : Int)]) H fun r2 H2 => ∃ s1 : ByteArray, r2 = .string s1 ∧ K (.string s1) H2 := by
    rw [← hsz]
    refine runH_unsafeString (e := 5) hpt (by kernel_rfl) (h1.get 1 rfl) (by rw [hsz]; omega) (by rw [hsz]; omega) (by rw [hsz]; omega) (fun j x hj => ?_) fun fz' => ⟨_, rfl, k _ ?_⟩
    · have hj2 := (List.getElem?_eq_some_iff.1 hj).1
      have hj3 : j < L.length := by rw [← hsz]; simpa using hj2
      have hb : (nb (strN L))[j]? = some x.toNat := by
        show ((strN L).data.toList.map UInt8.toNat)[j]? = some x.toNat
        rw [List.getElem?_map, hj]; rfl
      rw [nb_str hL, List.getElem?_eq_getElem hj3] at hb
      rw [a4 j hj3]
      simp only [Option.some.injEq] at hb
      rw [hb]
    · exact bldR_open.2 ⟨v, g, c, arr, fz', ⟨a1, a2, a3, a4⟩, h1.updAt 1 rfl _⟩
  have c1 : cellH H ⟨q, 0 + 1, none⟩ = some (.slice (some ⟨g, 0, none⟩) L.length c) := h1.cell 0 rfl rfl
  refine ⟨⟨some ⟨g, 0, none⟩, L.length, c⟩, c1, runH_sliceData a3 ⟨_, rfl, ⟨some ⟨g, 0, none⟩, L.length, c⟩, c1, fin⟩, ⟨some ⟨g, 0, none⟩, L.length, c⟩, c1, HL.Sub.refl _, runH_sliceData a3 ⟨_, rfl, fin⟩⟩
end Go.Proofs.YtdgmifbcbmndgaaGreatDoor
