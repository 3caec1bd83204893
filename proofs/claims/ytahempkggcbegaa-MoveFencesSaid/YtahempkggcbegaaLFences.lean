/- The law MoveFences: whatever comes in, the call gives true and turns nothing that was there. -/
import Derived.Test.YtahempkggcbegaaSa
import Derived.Test.YtahempkggcbegaaP5
import Derived.Test.YtahempkggcbegaaP2
namespace Go.Proofs.Ytahempkggcbegaa
open Go.HL
set_option maxHeartbeats 400000
def fences_tail_vc (up_1 : Sl) (n1 : Int) (n2 : Int) (n3 : Int) (n4 : Int) (l1 : Sl) (l2 : Sl) (l3 : Sl) (l4 : Sl) (n5 : Int) (H4 : Heap) (K : Value → Heap → Prop) : Prop :=
  ∃ I2 : Sl → Int → Int → Int → Int → Sl → Sl → Sl → Sl → Int → Heap → Prop,
                  ∃ M2 : Sl → Int → Int → Int → Int → Sl → Sl → Sl → Sl → Int → Heap → Nat,
                  I2 up_1 n1 n2 n3 n4 l1 l2 l3 l4 n5 H4 ∧
                  ∀ up_2 : Sl,
                  ∀ n15 : Int,
                  ∀ n16 : Int,
                  ∀ n17 : Int,
                  ∀ n18 : Int,
                  ∀ l11 : Sl,
                  ∀ l12 : Sl,
                  ∀ l13 : Sl,
                  ∀ l14 : Sl,
                  ∀ n19 : Int,
                  ∀ H11 : Heap,
                  I2 up_2 n15 n16 n17 n18 l11 l12 l13 l14 n19 H11 →
                  br (decide (((up_2.n : Nat) : Int) > 0)) (
                    ∃ q5 : Nat,
                    ∃ o3 : Nat,
                    (up_2.p : Option Addr) = some ⟨q5, o3, none⟩ ∧
                    0 ≤ (0 : Int) ∧
                    (0 : Int) < (up_2.n : Nat) ∧
                    ∃ n20 : Int,
                    cellH H11 ⟨q5, o3 + Int.toNat 0, none⟩ = some (.int .i64 n20) ∧
                    0 ≤ (1 : Int) ∧
                    (1 : Int) ≤ (up_2.n : Nat) ∧
                    FnH Try.prog 15 #[.agg #[.int .i64 n15, .int .i64 n16, .int .i64 n17, .int .i64 n18, .slice l11.p l11.n l11.c, .slice l12.p l12.n l12.c, .slice l13.p l13.n l13.c, .slice l14.p l14.n l14.c, .int .i64 n19], .int .i64 n20, .slice (slP up_2.p up_2.c 1 1) (Int.toNat ((up_2.n : Nat) - 1)) (Int.toNat ((up_2.c : Nat) - 1))] H11 fun r8 H12 =>
                      ∃ n21 : Int,
                      ∃ n22 : Int,
                      ∃ n23 : Int,
                      ∃ n24 : Int,
                      ∃ l15 : Sl,
                      ∃ l16 : Sl,
                      ∃ l17 : Sl,
                      ∃ l18 : Sl,
                      ∃ n25 : Int,
                      ∃ n26 : Int,
                      r8 = .tuple #[.agg #[.int .i64 n21, .int .i64 n22, .int .i64 n23, .int .i64 n24, .slice l15.p l15.n l15.c, .slice l16.p l16.n l16.c, .slice l17.p l17.n l17.c, .slice l18.p l18.n l18.c, .int .i64 n25], .int .i64 n26] ∧
                      br ((n26 : Int) != 0) (
                        K (.bool false) H12)
                       (
                        SelfEq ([.loc 0 0], [], [24]) ∧
                        I2 ⟨(slP up_2.p up_2.c 1 1), Int.toNat ((up_2.n : Nat) - 1), Int.toNat ((up_2.c : Nat) - 1)⟩ n21 n22 n23 n24 l15 l16 l17 l18 n25 H12 ∧
                        M2 ⟨(slP up_2.p up_2.c 1 1), Int.toNat ((up_2.n : Nat) - 1), Int.toNat ((up_2.c : Nat) - 1)⟩ n21 n22 n23 n24 l15 l16 l17 l18 n25 H12 < M2 up_2 n15 n16 n17 n18 l11 l12 l13 l14 n19 H11))
                   (
                    br (((l11.n : Nat) : Int) != 1) (
                      K (.bool false) H11)
                     (
                      br ((n16 : Int) != 0) (
                        K (.bool false) H11)
                       (
                        ∃ q6 : Nat,
                        ∃ o4 : Nat,
                        (l11.p : Option Addr) = some ⟨q6, o4, none⟩ ∧
                        0 ≤ (0 : Int) ∧
                        (0 : Int) < (l11.n : Nat) ∧
                        ∃ n27 : Int,
                        cellH H11 ⟨q6, o4 + Int.toNat 0, none⟩ = some (.int .i64 n27) ∧
                        (FnH Try.prog 16 #[.agg #[.int .i64 n15, .int .i64 n16, .int .i64 n17, .int .i64 n18, .slice l11.p l11.n l11.c, .slice l12.p l12.n l12.c, .slice l13.p l13.n l13.c, .slice l14.p l14.n l14.c, .int .i64 n19], .int .i64 n27] H11 fun r9 H13 =>
                          ∃ n28 : Int,
                          ∃ n29 : Int,
                          ∃ n30 : Int,
                          ∃ n31 : Int,
                          ∃ l19 : Sl,
                          ∃ l20 : Sl,
                          ∃ l21 : Sl,
                          ∃ l22 : Sl,
                          ∃ n32 : Int,
                          ∃ n33 : Int,
                          r9 = .tuple #[.agg #[.int .i64 n28, .int .i64 n29, .int .i64 n30, .int .i64 n31, .slice l19.p l19.n l19.c, .slice l20.p l20.n l20.c, .slice l21.p l21.n l21.c, .slice l22.p l22.n l22.c, .int .i64 n32], .int .i64 n33] ∧
                          Sub H11 H13 ∧
                          Sub H11 H13 ∧
                          br ((n33 : Int) == 0) (
                            ∃ q7 : Nat,
                            ∃ o5 : Nat,
                            (l11.p : Option Addr) = some ⟨q7, o5, none⟩ ∧
                            0 ≤ (0 : Int) ∧
                            (0 : Int) < (l11.n : Nat) ∧
                            ∃ n34 : Int,
                            cellH H13 ⟨q7, o5 + Int.toNat 0, none⟩ = some (.int .i64 n34) ∧
                            br ((n29 : Int) == n34) (
                              K (.bool ((n30 : Int) == (IntKind.wrap .i64 (n17 + 1)))) H13)
                             (
                              K (.bool false) H13))
                           (
                            K (.bool false) H13)) ∧
                        Sub H11 H11 ∧
                        FnH Try.prog 16 #[.agg #[.int .i64 n15, .int .i64 n16, .int .i64 n17, .int .i64 n18, .slice l11.p l11.n l11.c, .slice l12.p l12.n l12.c, .slice l13.p l13.n l13.c, .slice l14.p l14.n l14.c, .int .i64 n19], .int .i64 n27] H11 fun r10 H14 =>
                          ∃ n35 : Int,
                          ∃ n36 : Int,
                          ∃ n37 : Int,
                          ∃ n38 : Int,
                          ∃ l23 : Sl,
                          ∃ l24 : Sl,
                          ∃ l25 : Sl,
                          ∃ l26 : Sl,
                          ∃ n39 : Int,
                          ∃ n40 : Int,
                          r10 = .tuple #[.agg #[.int .i64 n35, .int .i64 n36, .int .i64 n37, .int .i64 n38, .slice l23.p l23.n l23.c, .slice l24.p l24.n l24.c, .slice l25.p l25.n l25.c, .slice l26.p l26.n l26.c, .int .i64 n39], .int .i64 n40] ∧
                          Sub H11 H14 ∧
                          br ((n40 : Int) == 0) (
                            ∃ q8 : Nat,
                            ∃ o6 : Nat,
                            (l11.p : Option Addr) = some ⟨q8, o6, none⟩ ∧
                            0 ≤ (0 : Int) ∧
                            (0 : Int) < (l11.n : Nat) ∧
                            ∃ n41 : Int,
                            cellH H14 ⟨q8, o6 + Int.toNat 0, none⟩ = some (.int .i64 n41) ∧
                            br ((n36 : Int) == n41) (
                              K (.bool ((n37 : Int) == (IntKind.wrap .i64 (n17 + 1)))) H14)
                             (
                              K (.bool false) H14))
                           (
                            K (.bool false) H14))))

theorem fences_tail {H0 H : Heap} {v : PV} {p : Part} {s : Sl} {up : List Int} (S : HL.Sub H0 H) (h : PIn H v p) (hup : Ints H s up) (F : Fenced p up) :
    fences_tail_vc s v.id v.leader v.epoch v.version v.isr v.replicas v.adding v.removing v.min H (fun r H' => r = .bool true ∧ HL.Sub H0 H') := by
  unfold fences_tail_vc
  refine ⟨fun s n1 n2 n3 n4 l1 l2 l3 l4 n5 H2 => HL.Sub H H2 ∧ ∃ q ups, PIn H2 ⟨n1, n2, n3, n4, l1, l2, l3, l4, n5⟩ q ∧ Ints H2 s ups ∧ Fenced q ups, fun s _ _ _ _ _ _ _ _ _ _ => s.n, ⟨Sub.refl _, p, up, h, hup, F⟩, ?_⟩
  rintro s n1 n2 n3 n4 l1 l2 l3 l4 n5 H2 ⟨s2, q, ups, hq, hu, F⟩
  have hl := hu.len
  refine br_intro (fun hlt => ?_) (fun hge => ?_)
  · have hlt := of_decide_eq_true hlt
    obtain ⟨b, o, f1, f2, f3, f4⟩ := hu.at_ (j := 0) (Int.le_refl _) hlt
    obtain ⟨a, ups, rfl⟩ : ∃ a t, ups = a :: t := by
      cases ups with
      | nil => simp at hl; omega
      | cons a t => exact ⟨a, t, rfl⟩
    refine ⟨b, o, f1, f2, f3, a, f4, by decide, by omega, ?_⟩
    have nd := List.nodup_cons.1 F.nodup
    obtain ⟨q', e, F', g1, g2⟩ := fence_law (up' := ups) (id := a) F (by simp) nd.2 (fun x => by
      simp only [List.mem_cons]
      constructor
      · intro hx; exact ⟨.inr hx, fun e => nd.1 (e ▸ hx)⟩
      · rintro ⟨h1 | h1, h2⟩
        · exact absurd h1 h2
        · exact h1) (by simp)
    have hu' : Ints H2 (s.from_ 1 1) ups := hu.from_ (j := 1) (by decide) (by omega)
    refine fence_spec (v := ⟨n1, n2, n3, n4, l1, l2, l3, l4, n5⟩) (u := s.from_ 1 1) hq F.right.small hu' (Ans.of e fun w H3 s3 hw => ⟨w.id, w.leader, w.epoch, w.version, w.isr, w.replicas, w.adding, w.removing, w.min, 0, rfl, br_f rfl ⟨rfl, ⟨s2.trans s3, q', ups, hw, hu'.sub s3, F'⟩, ?_⟩⟩)
    show Int.toNat ((s.n : Int) - 1) < s.n
    omega
  · have hge : ¬ ((s.n : Int) > 0) := of_decide_eq_false hge
    have e0 : ups = [] := List.length_eq_zero_iff.1 (by omega)
    subst e0
    obtain ⟨h1, h2⟩ := fenced_end F
    have hi := hq.isr
    have n0 := hi.len
    have hlead : n2 = q.leader := hq.leader
    have hep : n3 = q.epoch := hq.epoch
    obtain ⟨a, e1⟩ : ∃ a, q.isr = [a] := List.length_eq_one_iff.1 h1
    obtain ⟨b, o, f1, f2, f3, f4⟩ := hi.at_ (j := 0) (Int.le_refl _) (by rw [h1] at n0; show (0 : Int) < (l1.n : Int); have n0 : l1.n = 1 := n0; omega)
    have ha : q.isr.getD (0 : Int).toNat 0 = a := by rw [e1]; rfl
    rw [ha] at f4
    obtain ⟨q', e, g1, g2⟩ := back_end F (id := a) (by rw [e1]; simp)
    have n0 : l1.n = q.isr.length := n0
    refine br_f (by rw [n0, h1]; rfl) (br_f (by rw [hlead, h2]; rfl) ⟨b, o, f1, f2, f3, a, f4, ?_⟩)
    have ver := F.version
    have epp := F.right.epoch
    have epo := F.epoch
    have fin : ∀ (w : PV) H3, HL.Sub H2 H3 → PIn H3 w q' → cellH H3 ⟨b, o + (0 : Int).toNat, none⟩ = some (.int .i64 a) ∧ (w.leader == a) = true ∧ (w.epoch == IntKind.wrap .i64 (n3 + 1)) = true := fun w H3 s3 hw => by
      simp only [List.length_nil] at epo
      refine ⟨s3.cell f4, by rw [hw.leader, g1]; simp, ?_⟩
      rw [wrap64_id (by omega) (by omega), hw.epoch, g2, hep]; simp
    refine ⟨?_, Sub.refl _, ?_⟩
    · refine back_spec (v := ⟨n1, n2, n3, n4, l1, l2, l3, l4, n5⟩) hq F.right.small (Ans.of e fun w H3 s3 hw => ⟨w.id, w.leader, w.epoch, w.version, w.isr, w.replicas, w.adding, w.removing, w.min, 0, rfl, s3, s3, br_t rfl ?_⟩)
      obtain ⟨k1, k2, k3⟩ := fin w H3 s3 hw
      exact ⟨b, o, f1, f2, f3, a, k1, br_t k2 ⟨by rw [k3], S.trans (s2.trans s3)⟩⟩
    · refine back_spec (v := ⟨n1, n2, n3, n4, l1, l2, l3, l4, n5⟩) hq F.right.small (Ans.of e fun w H3 s3 hw => ⟨w.id, w.leader, w.epoch, w.version, w.isr, w.replicas, w.adding, w.removing, w.min, 0, rfl, s3, br_t rfl ?_⟩)
      obtain ⟨k1, k2, k3⟩ := fin w H3 s3 hw
      exact ⟨b, o, f1, f2, f3, a, k1, br_t k2 ⟨by rw [k3], S.trans (s2.trans s3)⟩⟩

theorem moveFences_walk {H : Heap} {v : PV} {p : Part} {s : Sl} {order : List Int} (h : PIn H v p) (hs : Ints H s order) (hr64 : ∀ n ∈ order, -9223372036854775808 ≤ n ∧ n ≤ 9223372036854775807) :
    FnH Try.prog 4 #[v.val, .slice s.p s.n s.c] H fun r H' => r = .bool true ∧ HL.Sub H H' := by
  apply logboomlaw11_MoveFences_fn
  unfold logboomlaw11_MoveFences_vc
  refine shown_spec fun H1 s1 => ⟨true, rfl, ?_⟩
  have h := h.sub s1
  refine right_spec h fun H2 s2 => ⟨_, rfl, br_f rfl (br_intro (fun h1 => ⟨rfl, s1.trans s2⟩) (fun h1 => ?_))⟩
  have hr := right_iff.1 (show rightB p = true by simpa using h1)
  have h := h.sub s2
  have S := s1.trans s2
  refine br_intro (fun _ => ⟨rfl, S⟩) (fun h4 => br_intro (fun _ => ⟨rfl, S⟩) (fun h5 => ?_))
  have h4 : p.version ≤ 999999900 := by have := of_decide_eq_false h4; rw [h.version] at this; omega
  have h5 : p.epoch ≤ 999999900 := by have := of_decide_eq_false h5; rw [h.epoch] at this; omega
  intro q1 hq1
  refine letH_intro fun H3 g3 => ?_
  have s3 : HL.Sub H2 H3 := by rw [g3]; exact Sub.new hq1 _
  have hup : Ints H3 ⟨some ⟨q1, 0, none⟩, 7, 7⟩ up7 := by rw [g3]; exact lit_in rfl rfl (by decide)
  clear g3
  have h := h.sub s3
  have S := S.trans s3
  have hs := hs.sub S
  have hbig := hs.big
  have hlen := hs.len
  have F : Fenced p up7 := ⟨hr, by decide, by decide, hr.leader.imp_right fun e => mem_up7 ((ids_iff.1 hr.isr).2 _ e), .inr fun x hx => mem_up7 ((ids_iff.1 hr.isr).2 _ hx), by decide, by show p.version + 7 ≤ _; omega, by show p.epoch + 7 ≤ _; omega⟩
  refine ⟨fun u i n1 n2 n3 n4 l1 l2 l3 l4 n5 H4 => HL.Sub H3 H4 ∧ 0 ≤ i ∧ i ≤ s.n ∧ ∃ q ups, PIn H4 ⟨n1, n2, n3, n4, l1, l2, l3, l4, n5⟩ q ∧ Ints H4 u ups ∧ Fenced q ups, fun _ i _ _ _ _ _ _ _ _ _ _ => (s.n - i).toNat, ⟨Sub.refl _, by omega, by omega, p, up7, h, hup, F⟩, ?_⟩
  rintro u i n1 n2 n3 n4 l1 l2 l3 l4 n5 H4 ⟨s4, i0, i1, q, ups, hq, hu, F⟩
  have T := fences_tail (v := ⟨n1, n2, n3, n4, l1, l2, l3, l4, n5⟩) (S.trans s4) hq hu F
  refine br_intro (fun hlt => br_intro (fun _ => ?_) (fun _ => T)) (fun _ => T)
  have hlt := of_decide_eq_true hlt
  obtain ⟨b, o, f1, f2, f3, f4⟩ := (hs.sub s4).at_ i0 hlt
  refine ⟨b, o, f1, f2, f3, _, f4, ?_⟩
  have few := F.few
  have ul := hu.len
  have uc := hu.cap
  have ub := hu.big
  rw [wrap64_id (by omega) (by omega)]
  refine pick_spec (by omega) ⟨_, rfl, ?_⟩
  obtain ⟨k0, k1⟩ := pick_range (n := (u.n : Int) + 1) (hr64 _ (getD_mem i0 (by omega))) (by omega)
  revert k0 k1
  generalize pickI (order.getD i.toNat 0) ((u.n : Int) + 1) = k
  intro k0 k1
  refine br_intro (fun he => ?_) (fun he => ?_)
  · rw [wrap64_id (by omega) (by omega)]
    exact ⟨rfl, ⟨s4, by omega, by omega, q, ups, hq, hu, F⟩, by dsimp only; omega⟩
  · have he : ¬ k = (u.n : Int) := by simpa using he
    have k2 : k < u.n := by omega
    obtain ⟨b', o', f1', f2', f3', f4'⟩ := hu.at_ k0 k2
    rw [wrap64_id (n := k + 1) (by omega) (by omega)]
    refine ⟨b', o', f1', k0, k2, _, f4', k0, by omega, by omega, by omega, ?_⟩
    intro q4 hq4
    refine letH_intro fun H6 g6 => ?_
    have s6 : HL.Sub H4 H6 := by rw [g6]; exact Sub.new hq4 _
    refine ⟨s6, ?_⟩
    have ho6 : Own H6 3 1 ⟨some ⟨q4, 0, none⟩, 0, 0⟩ [] := ⟨rfl, Nat.le_refl _, .inr ⟨q4, #[], rfl, by rw [g6]; exact Heap.upd_same _ _ _, rfl, fun i h => by simp at h⟩⟩
    have hu1 : Ints H6 (u.upto k 1) (ups.take k.toNat) := (hu.sub s6).upto k0 (by omega)
    have m1 : (u.upto k 1).n = (ups.take k.toNat).length := hu1.len
    have m1b : (ups.take k.toNat).length ≤ ups.length := List.length_take_le' _ _
    refine append_own (s := ⟨some ⟨q4, 0, none⟩, 0, 0⟩) ok22 ok22.under ho6 (H0 := H4) (fun b o sp h => by simp at h; rw [← h.1]; exact hq4) s6 hu1.cells (by simpa using m1.symm) (noTups_ints _ _) (by show 0 + (u.upto k 1).n ≤ 268435456; omega) ?_
    intro r7 H7 o7 f7 s7 e7
    refine ⟨r7, rfl, ?_⟩
    have hu2 : Ints H7 (u.from_ (k + 1) 1) (ups.drop (k + 1).toNat) := (hu.sub s7).from_ (by omega) (by omega)
    have m2 : (u.from_ (k + 1) 1).n = (ups.drop (k + 1).toNat).length := hu2.len
    have m2b : (ups.drop (k + 1).toNat).length ≤ ups.length := by simp
    have m7 := o7.1
    simp only [List.nil_append, List.length_map, Nat.mul_one] at m7
    refine append_own ok22 ok22.under o7 f7 s7 hu2.cells (by simpa using m2.symm) (noTups_ints _ _) (by show r7.n + (u.from_ (k + 1) 1).n ≤ 268435456; omega) ?_
    intro r8 H8 o8 f8 s8 e8
    refine ⟨r8, rfl, ?_⟩
    have hu8 : Ints H8 r8 (ups.take k.toNat ++ ups.drop (k.toNat + 1)) := Own.ints (by
      have e : (k + 1).toNat = k.toNat + 1 := by omega
      rw [e] at o8
      simpa using o8) (by simp; omega)
    -- who is up behind it
    have kl : k.toNat < ups.length := by omega
    have esplit : ups = ups.take k.toNat ++ ups[k.toNat] :: ups.drop (k.toNat + 1) := by
      rw [← List.drop_eq_getElem_cons kl]; exact (List.take_append_drop _ _).symm
    have eg : ups.getD k.toNat 0 = ups[k.toNat] := by simp [List.getD, kl]
    have nd : (ups.take k.toNat ++ ups[k.toNat] :: ups.drop (k.toNat + 1)).Nodup := by rw [← esplit]; exact F.nodup
    obtain ⟨d1, d2, d3⟩ := List.nodup_append.1 nd
    obtain ⟨d4, d5⟩ := List.nodup_cons.1 d2
    obtain ⟨q', e, F', g1, g2⟩ := fence_law (up' := ups.take k.toNat ++ ups.drop (k.toNat + 1)) (id := ups.getD k.toNat 0) F (getD_mem k0 (by omega))
      (List.nodup_append.2 ⟨d1, d5, fun a ha b hb => d3 a ha b (List.mem_cons_of_mem _ hb)⟩) (fun x => by
        rw [eg]
        have em : x ∈ ups ↔ x ∈ ups.take k.toNat ∨ x = ups[k.toNat] ∨ x ∈ ups.drop (k.toNat + 1) := by
          have : x ∈ ups ↔ x ∈ ups.take k.toNat ++ ups[k.toNat] :: ups.drop (k.toNat + 1) := by rw [← esplit]
          rw [this, List.mem_append, List.mem_cons]
        rw [em, List.mem_append]
        constructor
        · rintro (h1 | h1)
          · exact ⟨.inl h1, fun e => d3 x h1 _ List.mem_cons_self e⟩
          · exact ⟨.inr (.inr h1), fun e => d4 (e ▸ h1)⟩
        · rintro ⟨h1 | h1 | h1, h2⟩
          · exact .inl h1
          · exact absurd h1 h2
          · exact .inr h1) (by simp; omega)
    refine fence_spec (v := ⟨n1, n2, n3, n4, l1, l2, l3, l4, n5⟩) (hq.sub s8) F.right.small hu8 (Ans.of e fun w H9 s9 hw => ⟨w.id, w.leader, w.epoch, w.version, w.isr, w.replicas, w.adding, w.removing, w.min, 0, rfl, br_f rfl ?_⟩)
    have hw : PIn H9 w q' := hw
    have wl := hw.isr.len
    have next : HL.Sub H3 H9 ∧ 0 ≤ i + 1 ∧ i + 1 ≤ s.n ∧ ∃ q ups, PIn H9 ⟨w.id, w.leader, w.epoch, w.version, w.isr, w.replicas, w.adding, w.removing, w.min⟩ q ∧ Ints H9 r8 ups ∧ Fenced q ups :=
      ⟨s4.trans (s8.trans s9), by omega, by omega, q', _, hw, hu8.sub s9, F'⟩
    refine in_spec hw.isr ⟨_, rfl, br_f (by rw [hw.leader, eqb]; exact decide_eq_false g1) (br_intro (fun hin => br_f (decide_eq_false ?_) ?_) (fun _ => ?_))⟩
    · have := g2 (of_decide_eq_true hin); omega
    · rw [wrap64_id (by omega) (by omega)]
      exact ⟨rfl, next, by dsimp only; omega⟩
    · rw [wrap64_id (by omega) (by omega)]
      exact ⟨rfl, next, by dsimp only; omega⟩
end Go.Proofs.Ytahempkggcbegaa
