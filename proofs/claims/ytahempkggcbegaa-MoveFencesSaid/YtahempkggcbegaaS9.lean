/- The chapter's examples come out as the chapter says. -/
import Derived.Test.YtahempkggcbegaaS8
namespace Go.Proofs.Ytahempkggcbegaa
open Go.HL
set_option maxHeartbeats 400000

theorem Ans.of {K : Value → Heap → Prop} {H : Heap} {a b : Part × Int} (e : a = b) (k : Ans K H b) : Ans K H a := e ▸ k
theorem br_t {c : Bool} {A B : Prop} (h : c = true) (k : A) : br c A B := br_intro (fun _ => k) (fun e => by rw [h] at e; cases e)
theorem br_f {c : Bool} {A B : Prop} (h : c = false) (k : B) : br c A B := br_intro (fun e => by rw [h] at e; cases e) (fun _ => k)
/-- A literal list in a block of its own. -/
theorem lit_in {H : Heap} {q n : Nat} {l : List Int} {cs : Array Value} (e : cs.toList = l.map (Value.int .i64)) (hn : n = l.length) (hb : l.length ≤ 1000000) : Ints (H.upd q (.cells cs 3 (0, 0))) ⟨some ⟨q, 0, none⟩, n, n⟩ l :=
  ⟨hn, by show n ≤ _; omega, Nat.le_refl _, CellsAt.block (Heap.upd_same _ _ _) (fun i hi => by
    have h1 : cs.toList[i]? = some ((l.map (Value.int .i64))[i]) := by rw [e]; exact List.getElem?_eq_getElem hi
    rw [← Array.getElem?_toList]; exact h1)⟩
theorem small_of {p : Part} (h : p.isr.length ≤ 10 ∧ p.replicas.length ≤ 10 ∧ p.adding.length ≤ 10 ∧ p.removing.length ≤ 10) : Small p := ⟨by omega, by omega, by omega, by omega⟩

def upL : List Int := [1, 2, 3, 4]
theorem e1 : fenceP knownP 1 upL = (⟨1, 2, 4, 6, [2], [1, 2, 3], [], [], 2⟩, 0) := by kernel_rfl
theorem e2 : alterP knownP 1 3 5 [3, 1, 2] upL = (⟨1, 1, 3, 6, [1, 2, 3], [1, 2, 3], [], [], 2⟩, 0) := by kernel_rfl
theorem e3 : alterP knownP 1 3 4 [1] upL = (zeroPart, 13) := by kernel_rfl
def cP : Part := ⟨1, 1, 3, 6, [1, 2], [2, 4, 1, 3], [4], [1, 3], 2⟩
theorem e4 : beginP knownP [2, 4] upL = (cP, 0) := by kernel_rfl
def xP : Part := ⟨1, 1, 3, 7, [2, 4, 1], [2, 4, 1, 3], [4], [1, 3], 2⟩
theorem e5 : alterP cP 1 3 6 [1, 2, 4] upL = (xP, 0) := by kernel_rfl
theorem e6 : finishP xP upL = (⟨1, 2, 4, 8, [2, 4], [2, 4], [], [], 2⟩, 0) := by kernel_rfl
theorem e7 : electP knownP 3 = (zeroPart, 19) := by kernel_rfl

theorem shown_spec {H : Heap} {K : Value → Heap → Prop} (k : ∀ H', HL.Sub H H' → K (.bool true) H') : FnH Try.prog 7 #[] H K := by
  apply logboomlaw11_shown_fn
  unfold logboomlaw11_shown_vc
  intro q1 h1
  refine letH_intro fun H1 g1 => ?_
  have s1 : HL.Sub H H1 := by rw [g1]; exact Sub.new h1 _
  have hup : Ints H1 ⟨some ⟨q1, 0, none⟩, 4, 4⟩ upL := by rw [g1]; exact lit_in rfl rfl (by decide)
  clear g1
  refine known_spec fun u1 H2 s2 hu1 => ⟨u1.id, u1.leader, u1.epoch, u1.version, u1.isr, u1.replicas, u1.adding, u1.removing, u1.min, rfl, ?_⟩
  have hup := hup.sub s2
  have s := s1.trans s2
  clear s1 s2
  refine fence_spec (u := ⟨some ⟨q1, 0, none⟩, 4, 4⟩) hu1 (small_of (by decide)) hup (Ans.of e1 fun a H3 s3 ha => ⟨a.id, a.leader, a.epoch, a.version, a.isr, a.replicas, a.adding, a.removing, a.min, 0, rfl, ?_⟩)
  have hup := hup.sub s3
  have s := s.trans s3
  clear s3
  refine known_spec fun u2 H4 s4 hu2 => ⟨u2.id, u2.leader, u2.epoch, u2.version, u2.isr, u2.replicas, u2.adding, u2.removing, u2.min, rfl, ?_⟩
  have hup := hup.sub s4
  have ha := ha.sub s4
  have s := s.trans s4
  clear s4
  intro q2 h2
  refine letH_intro fun H5 g2 => ?_
  have s5 : HL.Sub H4 H5 := by rw [g2]; exact Sub.new h2 _
  have hi2 : Ints H5 ⟨some ⟨q2, 0, none⟩, 3, 3⟩ [3, 1, 2] := by rw [g2]; exact lit_in rfl rfl (by decide)
  clear g2
  have hup := hup.sub s5
  have ha := ha.sub s5
  have s := s.trans s5
  refine alter_spec (s := ⟨some ⟨q2, 0, none⟩, 3, 3⟩) (u := ⟨some ⟨q1, 0, none⟩, 4, 4⟩) (hu2.sub s5) (small_of (by decide)) hi2 hup (Ans.of e2 fun b H6 s6 hb => ⟨b.id, b.leader, b.epoch, b.version, b.isr, b.replicas, b.adding, b.removing, b.min, 0, rfl, ?_⟩)
  have hup := hup.sub s6
  have ha := ha.sub s6
  have s := s.trans s6
  clear s6 s5
  refine known_spec fun u3 H7 s7 hu3 => ⟨u3.id, u3.leader, u3.epoch, u3.version, u3.isr, u3.replicas, u3.adding, u3.removing, u3.min, rfl, ?_⟩
  intro q3 h3
  refine letH_intro fun H8 g3 => ?_
  have s8 : HL.Sub H7 H8 := by rw [g3]; exact Sub.new h3 _
  have hi3 : Ints H8 ⟨some ⟨q3, 0, none⟩, 1, 1⟩ [1] := by rw [g3]; exact lit_in rfl rfl (by decide)
  clear g3
  have hup := hup.sub (s7.trans s8)
  have ha := ha.sub (s7.trans s8)
  have hb := hb.sub (s7.trans s8)
  have s := s.trans (s7.trans s8)
  refine alter_spec (s := ⟨some ⟨q3, 0, none⟩, 1, 1⟩) (u := ⟨some ⟨q1, 0, none⟩, 4, 4⟩) (hu3.sub s8) (small_of (by decide)) hi3 hup (Ans.of e3 fun z H9 s9 hz => ⟨z.id, z.leader, z.epoch, z.version, z.isr, z.replicas, z.adding, z.removing, z.min, 13, rfl, ?_⟩)
  clear s7 s8 hz
  refine known_spec fun u4 H10 s10 hu4 => ⟨u4.id, u4.leader, u4.epoch, u4.version, u4.isr, u4.replicas, u4.adding, u4.removing, u4.min, rfl, ?_⟩
  intro q4 h4
  refine letH_intro fun H11 g4 => ?_
  have s11 : HL.Sub H10 H11 := by rw [g4]; exact Sub.new h4 _
  have hi4 : Ints H11 ⟨some ⟨q4, 0, none⟩, 2, 2⟩ [2, 4] := by rw [g4]; exact lit_in rfl rfl (by decide)
  clear g4
  have s911 := s9.trans (s10.trans s11)
  have hup := hup.sub s911
  have ha := ha.sub s911
  have hb := hb.sub s911
  have s := s.trans s911
  refine begin_spec (s := ⟨some ⟨q4, 0, none⟩, 2, 2⟩) (u := ⟨some ⟨q1, 0, none⟩, 4, 4⟩) (hu4.sub s11) (small_of (by decide)) hi4 hup (Ans.of e4 fun c H12 s12 hc => ⟨c.id, c.leader, c.epoch, c.version, c.isr, c.replicas, c.adding, c.removing, c.min, 0, rfl, ?_⟩)
  clear s911 s9 s10 s11
  intro q5 h5
  refine letH_intro fun H13 g5 => ?_
  have s13 : HL.Sub H12 H13 := by rw [g5]; exact Sub.new h5 _
  have hi5 : Ints H13 ⟨some ⟨q5, 0, none⟩, 3, 3⟩ [1, 2, 4] := by rw [g5]; exact lit_in rfl rfl (by decide)
  clear g5
  have s1213 := s12.trans s13
  have hup := hup.sub s1213
  have ha := ha.sub s1213
  have hb := hb.sub s1213
  have hc := hc.sub s13
  have s := s.trans s1213
  refine alter_spec (s := ⟨some ⟨q5, 0, none⟩, 3, 3⟩) (u := ⟨some ⟨q1, 0, none⟩, 4, 4⟩) hc (small_of (by decide)) hi5 hup (Ans.of e5 fun x H14 s14 hx => ⟨x.id, x.leader, x.epoch, x.version, x.isr, x.replicas, x.adding, x.removing, x.min, 0, rfl, ?_⟩)
  clear s1213 s12 s13
  have hup := hup.sub s14
  refine finish_spec (u := ⟨some ⟨q1, 0, none⟩, 4, 4⟩) hx (small_of (by decide)) hup (Ans.of e6 fun d H15 s15 hd => ⟨d.id, d.leader, d.epoch, d.version, d.isr, d.replicas, d.adding, d.removing, d.min, 0, rfl, ?_⟩)
  refine known_spec fun u5 H16 s16 hu5 => ⟨u5.id, u5.leader, u5.epoch, u5.version, u5.isr, u5.replicas, u5.adding, u5.removing, u5.min, rfl, ?_⟩
  refine elect_spec hu5 (small_of (by decide)) (Ans.of e7 fun z2 H17 s17 hz2 => ⟨z2.id, z2.leader, z2.epoch, z2.version, z2.isr, z2.replicas, z2.adding, z2.removing, z2.min, 19, rfl, ?_⟩)
  have t := s14.trans (s15.trans (s16.trans s17))
  have ha := ha.sub t
  have hb := hb.sub t
  have hc := hc.sub t
  have hx := hx.sub (s15.trans (s16.trans s17))
  have hd := hd.sub (s16.trans s17)
  have s := s.trans t
  clear t s14 s15 s16 s17 hz2 hup
  intro q6 h6
  refine letH_intro fun H18 g6 => ?_
  have s18 : HL.Sub H17 H18 := by rw [g6]; exact Sub.new h6 _
  have hi6 : Ints H18 ⟨some ⟨q6, 0, none⟩, 1, 1⟩ [2] := by rw [g6]; exact lit_in rfl rfl (by decide)
  clear g6
  refine sameList_spec (t := ⟨some ⟨q6, 0, none⟩, 1, 1⟩) (ha.isr.sub s18) hi6 ⟨_, rfl, ?_⟩
  intro q7 h7
  refine letH_intro fun H20 g7 => ?_
  have s20 : HL.Sub H18 H20 := by rw [g7]; exact Sub.new h7 _
  have hi7 : Ints H20 ⟨some ⟨q7, 0, none⟩, 3, 3⟩ [1, 2, 3] := by rw [g7]; exact lit_in rfl rfl (by decide)
  clear g7
  refine sameList_spec (t := ⟨some ⟨q7, 0, none⟩, 3, 3⟩) (hb.isr.sub (s18.trans s20)) hi7 ⟨_, rfl, ?_⟩
  intro q8 h8
  refine letH_intro fun H22 g8 => ?_
  have s22 : HL.Sub H20 H22 := by rw [g8]; exact Sub.new h8 _
  have hi8 : Ints H22 ⟨some ⟨q8, 0, none⟩, 4, 4⟩ [2, 4, 1, 3] := by rw [g8]; exact lit_in rfl rfl (by decide)
  clear g8
  refine sameList_spec (t := ⟨some ⟨q8, 0, none⟩, 4, 4⟩) (hc.replicas.sub (s18.trans (s20.trans s22))) hi8 ⟨_, rfl, ?_⟩
  intro q9 h9
  refine letH_intro fun H24 g9 => ?_
  have s24 : HL.Sub H22 H24 := by rw [g9]; exact Sub.new h9 _
  have hi9 : Ints H24 ⟨some ⟨q9, 0, none⟩, 2, 2⟩ [2, 4] := by rw [g9]; exact lit_in rfl rfl (by decide)
  clear g9
  refine sameList_spec (t := ⟨some ⟨q9, 0, none⟩, 2, 2⟩) (hd.replicas.sub (s18.trans (s20.trans (s22.trans s24)))) hi9 ⟨_, rfl, ?_⟩
  have t := s.trans (s18.trans (s20.trans (s22.trans s24)))
  have k := k H24 t
  have da := hd.adding.len
  have dr := hd.removing.len
  refine br_t rfl (br_t (by rw [ha.leader]; rfl) (br_t (by rw [ha.epoch]; rfl) (br_t (by rw [ha.version]; rfl) (br_t (by decide) (br_t rfl (br_t (by decide) (br_t rfl (br_t rfl (br_t (by decide) (br_t rfl (br_t (by rw [hx.leader]; rfl) (br_t rfl (br_t (by decide)
    (br_t (by rw [hd.leader]; rfl) (br_t (by rw [hd.epoch]; rfl) (br_t (by rw [hd.version]; rfl) (br_t (by rw [da, dr]; rfl) ?_)))))))))))))))))
  exact k
end Go.Proofs.Ytahempkggcbegaa
