import Derived.Test.YthldclmeojkboaaGreatDoorBM
namespace Go.Proofs.YthldclmeojkboaaGreatDoor
open Go Go.HL
set_option maxHeartbeats 1600000
set_option maxRecDepth 10000
def LowT (st : RS) : Prop := st.snapped ≤ st.term ∧ ∀ x ∈ st.l, x.1 ≤ st.term
theorem aS_le {st : RS} (h : StOk st) : aS st ≤ 2086 * (st.l.length : Int) := by
  unfold aS
  have := ents_len (l := st.l) fun x hx => (h.bounds x hx).2.2
  rw [strN_size (ents_bytes _)]; omega
theorem term_le (t v : Int) : (termB t v).size ≤ 24 := by
  unfold termB
  rw [strN_size (sumd_bytes (app_bytes (encN_bytes _) (encN_bytes _))), sumd_len, List.length_append]
  have := encN_len t
  have := encN_len v
  omega
theorem use_le {st : RS} (h : StOk st) (hi : st.index = 0) : useS st ≤ 2086 * (st.l.length : Int) + 24 := by
  have h1 := aS_le h
  have h2 : bS st = 0 := by unfold bS; rw [if_pos hi]
  have h3 : cS st ≤ 24 := by
    unfold cS
    split
    · decide
    · have := term_le st.term st.vote; omega
  unfold useS; omega
theorem turn_up {size : Int} {st : RS} (hL : Lg st) (hi : st.index = 0) (hr : 2086 * (st.l.length : Int) + 100 ≤ size) (ht : st.term + 1 ≤ 1000000000) {v : Int} (hv : inX v 0) : turnS size st (st.term + 1) v = (0, { st with term := st.term + 1, vote := v }) := by
  have h1 := aS_le hL.ok
  have h2 : bS st = 0 := by unfold bS; rw [if_pos hi]
  have h3 := term_le (st.term + 1) v
  have h4 := hL.ok.term
  unfold turnS
  rw [if_neg (fun z => z ⟨⟨by have := h4.1; omega, ht⟩, hv⟩), if_neg (by omega), if_neg (by omega), if_neg (by omega), if_neg (by omega)]
theorem atX_end {st : RS} (h : Lg st) : atX st ((lastX st).1 + 1) = none := by
  unfold atX
  have hg := h.ok.good.last
  rw [if_neg (by omega)]
  exact List.getElem?_eq_none (by omega)
theorem put_one {size : Int} {st : RS} (hL : Lg st) (hi : st.index = 0) (hlow : LowT st) {data : ByteArray} (hd : data.size ≤ 2048) (ht : 1 ≤ st.term) (hf : (lastX st).1 + 1 ≤ 1000000000) (hr : 2086 * (st.l.length : Int) + 5000 ≤ size) :
    putS size st (lastX st).1 [(st.term, (lastX st).1 + 1, data)] = (0, { st with l := st.l ++ [(st.term, (lastX st).1 + 1, data)] }) := by
  have hg := hL.ok.good.last
  have ht2 := hL.ok.term.2
  have hu := use_le hL.ok hi
  have h0 := hL.fin
  have e1 : rightX (lastX st).1 0 none [(st.term, (lastX st).1 + 1, data)] = 0 := by
    have : enC (lastX st).1 0 none (st.term, (lastX st).1 + 1, data) = 0 := by
      unfold enC
      rw [if_neg, if_neg (by show ¬ data.size > 2048; omega)]
      rintro (z | z | z | ⟨y, z, -⟩)
      · exact z (by show (lastX st).1 + 1 = (lastX st).1 + 1 + ((0 : Nat) : Int); omega)
      · have z : (lastX st).1 + 1 > 1000000000 := z; omega
      · exact z ⟨ht, ht2⟩
      · cases z
    show (if enC (lastX st).1 0 none (st.term, (lastX st).1 + 1, data) ≠ 0 then enC (lastX st).1 0 none (st.term, (lastX st).1 + 1, data) else 0) = 0
    rw [this]; rfl
  have e2 : stripB st (st.term, (lastX st).1 + 1, data) = false := by
    have hx : atX st (st.term, (lastX st).1 + 1, data).2.1 = none := atX_end hL
    rw [strip_none hx]
    exact decide_eq_false (by show ¬ (lastX st).1 + 1 ≤ st.index; omega)
  have e3 : ([(st.term, (lastX st).1 + 1, data)] : List En).dropWhile (stripB st) = [(st.term, (lastX st).1 + 1, data)] := by
    rw [List.dropWhile_cons, e2]; rfl
  have e4 : ((lastX st).1 + 1 - st.index - 1).toNat = st.l.length := by omega
  have e5 : aheadX st st.l.length ≤ st.term := by
    unfold aheadX
    split
    · exact hlow.1
    · split
      · rename_i y hy
        exact hlow.2 y (List.mem_of_getElem? hy)
      · omega
  unfold putS
  rw [put_go (r := []) (x := (st.term, (lastX st).1 + 1, data)) (by omega) e1 e3 (by show ¬ st.term < aheadX st ((lastX st).1 + 1 - st.index - 1).toNat; rw [e4]; omega) ?_]
  · have e6 : st.l.take ((lastX st).1 + 1 - st.index - 1).toNat = st.l := by rw [e4, List.take_length]
    show ((0 : Int), ({ st with l := st.l.take ((lastX st).1 + 1 - st.index - 1).toNat ++ [(st.term, (lastX st).1 + 1, data)] } : RS)) = _
    rw [e6]
  · have := ents_len (l := [(st.term, (lastX st).1 + 1, data)]) fun x hx => by rw [List.mem_singleton.1 hx]; exact hd
    have : ([(st.term, (lastX st).1 + 1, data)] : List En).length = 1 := rfl
    omega
abbrev more (st : RS) (data : ByteArray) : RS := { st with l := st.l ++ [(st.term, (lastX st).1 + 1, data)] }
theorem more_last (st : RS) (data : ByteArray) : lastX (more st data) = ((lastX st).1 + 1, st.term) := by
  unfold lastX
  show (match (st.l ++ [(st.term, (lastX st).1 + 1, data)]).getLast? with | some x => (x.2.1, x.1) | none => _) = _
  rw [List.getLast?_append]
  rfl
theorem more_at {st : RS} (hL : Lg st) (data : ByteArray) : atT (more st data) ((lastX st).1 + 1) = st.term := by
  have hg := hL.ok.good.last
  have h0 := hL.fin
  unfold atT
  rw [if_neg (by omega), if_neg (by show ¬ (lastX st).1 + 1 = st.index; omega)]
  have : atX (more st data) ((lastX st).1 + 1) = some (st.term, (lastX st).1 + 1, data) := by
    unfold atX
    rw [if_neg (by show ¬ (lastX st).1 + 1 ≤ st.index; omega)]
    show (st.l ++ [_])[((lastX st).1 + 1 - st.index - 1).toNat]? = _
    have e4 : ((lastX st).1 + 1 - st.index - 1).toNat = st.l.length := by omega
    rw [e4, List.getElem?_append_right (Nat.le_refl _), Nat.sub_self]
    rfl
  rw [this]
theorem more_low {st : RS} (h : LowT st) (data : ByteArray) : LowT (more st data) := ⟨h.1, fun x hx => by
  rcases List.mem_append.1 hx with g | g
  · exact h.2 x g
  · rw [List.mem_singleton.1 g]; exact Int.le_refl _⟩
theorem adv_alone {n : Nd} (hps : n.ps = []) (ht : atT n.st n.fin = n.st.term) (hc : n.commit < n.fin) : n.advance = { n with commit := n.fin } := by
  unfold Nd.advance
  rw [adv_step hc, if_pos ⟨ht, by rw [hps]; rfl⟩]
theorem all_alone {n : Nd} (hps : n.ps = []) : n.all = n := by unfold Nd.all; rw [hps]; rfl
theorem putN_one {size : Int} {n : Nd} (hL : Lg n.st) (hi : n.st.index = 0) (hlow : LowT n.st) {data : ByteArray} (hd : data.size ≤ 2048) (ht : 1 ≤ n.st.term) (hf : n.fin + 1 ≤ 1000000000) (hr : 2086 * (n.st.l.length : Int) + 5000 ≤ size) :
    n.put size data = (n.fin + 1, 0, { n with st := more n.st data }) := by
  have := put_one (size := size) hL hi hlow hd ht hf hr
  unfold Nd.put
  rw [this]
theorem lead_alone {size : Int} {n : Nd} {now : Int} (hps : n.ps = []) (hL : Lg n.st) (hi : n.st.index = 0) (hlow : LowT n.st) (ht : 1 ≤ n.st.term) (hf : n.fin + 1 ≤ 1000000000) (hr : 2086 * (n.st.l.length : Int) + 5000 ≤ size) (hc : n.commit ≤ n.fin) :
    n.lead size now = { n with role := 2, known := n.id, st := more n.st ⟨#[]⟩, commit := n.fin + 1, beat := W (now + quart n.wait) } := by
  have e1 : n.lead1 = { n with role := 2, known := n.id } := by
    unfold Nd.lead1; rw [hps]; rfl
  have hp := putN_one (size := size) (n := ({ n with role := 2, known := n.id } : Nd)) hL hi hlow (data := ⟨#[]⟩) (by decide) ht hf hr
  unfold Nd.lead
  rw [e1, hp, if_neg (fun z => z rfl)]
  have ef : (({ n with role := 2, known := n.id, st := more n.st ⟨#[]⟩ } : Nd)).fin = n.fin + 1 := by
    show (lastX (more n.st ⟨#[]⟩)).1 = _
    rw [more_last]
  have e2 := adv_alone (n := ({ n with role := 2, known := n.id, st := more n.st ⟨#[]⟩ } : Nd)) hps (by rw [ef]; exact more_at hL _) (by rw [ef]; show n.commit < _; omega)
  rw [ef] at e2
  show (({ n with role := 2, known := n.id, st := more n.st ⟨#[]⟩ } : Nd)).advance.beats now = _
  rw [e2]
  unfold Nd.beats
  rw [all_alone (by exact hps)]
theorem stand_alone {size : Int} {n : Nd} {now : Int} (hps : n.ps = []) (hL : Lg n.st) (hi : n.st.index = 0) (hlow : LowT n.st) (hid : inX n.id 0) (ht : n.st.term + 1 ≤ 1000000000) (hf : n.fin + 1 ≤ 1000000000) (hr : 2086 * (n.st.l.length : Int) + 5000 ≤ size) (hc : n.commit ≤ n.fin) :
    n.stand size now = { n with role := 2, known := n.id, st := more { n.st with term := n.st.term + 1, vote := n.id } ⟨#[]⟩, commit := n.fin + 1, beat := W (now + quart n.wait), deadline := (n.anew now).deadline } := by
  have hu := turn_up (size := size) (st := n.st) hL hi (by omega) ht hid
  have e1 : n.stood size now = (0, { n.anew now with st := { n.st with term := n.st.term + 1, vote := n.id } }) := by
    show ((turnS size n.st (n.st.term + 1) n.id).1, { n.anew now with st := (turnS size n.st (n.st.term + 1) n.id).2 }) = _
    rw [hu]
  have hL2 : Lg ({ n.st with term := n.st.term + 1, vote := n.id } : RS) := by
    have := lg_turn (size := size) hL (n.st.term + 1) n.id
    rw [hu] at this; exact this
  have h0 := hL.ok.term.1
  rw [stand_eq, e1, if_neg (fun z => z rfl)]
  have e2 : (({ n.anew now with st := { n.st with term := n.st.term + 1, vote := n.id } } : Nd)).cand = { n.anew now with st := { n.st with term := n.st.term + 1, vote := n.id }, role := 1, known := 0 } := by
    have key : n.ps.map nvote = n.ps := by rw [hps]; rfl
    exact congrArg (fun l => ({ n.anew now with st := { n.st with term := n.st.term + 1, vote := n.id }, role := 1, known := 0, ps := l } : Nd)) key
  show (if maj (({ n.anew now with st := { n.st with term := n.st.term + 1, vote := n.id } } : Nd)).cand.ps (·.vote) = true then _ else _) = _
  rw [e2, if_pos (by show maj n.ps _ = true; rw [hps]; rfl)]
  have hlow2 : LowT ({ n.st with term := n.st.term + 1, vote := n.id } : RS) := ⟨by have := hlow.1; show n.st.snapped ≤ n.st.term + 1; omega, fun x hx => by have := hlow.2 x hx; show x.1 ≤ n.st.term + 1; omega⟩
  rw [lead_alone (n := ({ n.anew now with st := { n.st with term := n.st.term + 1, vote := n.id }, role := 1, known := 0 } : Nd)) hps hL2 hi hlow2 (by show 1 ≤ n.st.term + 1; omega) hf hr hc]
  rfl
theorem propose_alone {size : Int} {n : Nd} (hps : n.ps = []) (hrole : n.role = 2) (hL : Lg n.st) (hi : n.st.index = 0) (hlow : LowT n.st) {data : ByteArray} (hd : data.size ≤ 2048) (ht : 1 ≤ n.st.term) (hf : n.fin + 1 ≤ 1000000000) (hr : 2086 * (n.st.l.length : Int) + 5000 ≤ size) (hc : n.commit ≤ n.fin) :
    n.propose size data = (n.fin + 1, 0, { n with st := more n.st data, commit := n.fin + 1 }) := by
  have hp := putN_one (size := size) (n := n) hL hi hlow hd ht hf hr
  unfold Nd.propose
  rw [if_neg (fun z => z hrole), hp]
  show (if (0 : Int) ≠ 0 then _ else (n.fin + 1, (0 : Int), (({ n with st := more n.st data } : Nd)).advance.all)) = _
  rw [if_neg (fun z => z rfl)]
  have ef : (({ n with st := more n.st data } : Nd)).fin = n.fin + 1 := by
    show (lastX (more n.st data)).1 = _
    rw [more_last]
  rw [adv_alone (n := ({ n with st := more n.st data } : Nd)) hps (by rw [ef]; exact more_at hL _) (by rw [ef]; show n.commit < _; omega), ef, all_alone (by exact hps)]
theorem propose_long {size : Int} {n : Nd} (hrole : n.role = 2) (hL : Lg n.st) {data : ByteArray} (hd : data.size > 2048) (ht : 1 ≤ n.st.term) (hf : n.fin + 1 ≤ 1000000000) : n.propose size data = (0, 2, n) := by
  have ht2 := hL.ok.term.2
  have h0 := hL.fin
  have e1 : rightX n.fin 0 none [(n.st.term, n.fin + 1, data)] = 2 := by
    have : enC n.fin 0 none (n.st.term, n.fin + 1, data) = 2 := by
      unfold enC
      rw [if_neg, if_pos (by show data.size > 2048; omega)]
      rintro (z | z | z | ⟨y, z, -⟩)
      · exact z (by show n.fin + 1 = n.fin + 1 + ((0 : Nat) : Int); omega)
      · have z : n.fin + 1 > 1000000000 := z; omega
      · exact z ⟨ht, ht2⟩
      · cases z
    show (if enC n.fin 0 none (n.st.term, n.fin + 1, data) ≠ 0 then enC n.fin 0 none (n.st.term, n.fin + 1, data) else 0) = 2
    rw [this]; rfl
  have e2 : putS size n.st n.fin [(n.st.term, n.fin + 1, data)] = (2, n.st) := by
    unfold putS putX
    have hf0 : n.fin = (lastX n.st).1 := rfl
    rw [if_neg (by omega), if_pos (by rw [e1]; decide), e1]
  unfold Nd.propose
  rw [if_neg (fun z => z hrole)]
  unfold Nd.put
  rw [e2]
  rfl
end Go.Proofs.YthldclmeojkboaaGreatDoor
