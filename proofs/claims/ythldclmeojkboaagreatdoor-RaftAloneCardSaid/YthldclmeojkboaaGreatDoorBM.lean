import Derived.Test.YthldclmeojkboaaGreatDoorAM
import Derived.Test.YthldclmeojkboaaGreatDoorV2
import Derived.Test.YthldclmeojkboaaGreatDoorV3
import Derived.Test.YthldclmeojkboaaGreatDoorV4
namespace Go.Proofs.YthldclmeojkboaaGreatDoor
open Go Go.HL
set_option maxHeartbeats 1600000
set_option maxRecDepth 10000
abbrev W (n : Int) : Int := IntKind.wrap .i64 n
structure Pr where
  id : Int
  nxt : Int
  mat : Int
  vote : Bool
structure Mg where
  kind : Int
  frm : Int
  to : Int
  last : Int
  high : Int
  term : Int
  index : Int
  err : Int
  text : ByteArray
  ents : List En
structure Nd where
  id : Int
  wait : Int
  role : Int
  known : Int
  commit : Int
  taken : Int
  deadline : Int
  beat : Int
  draw : Int
  ps : List Pr
  st : RS
  out : List Mg
def atT (st : RS) (i : Int) : Int := if i = 0 then 0 else if i = st.index then st.snapped else match atX st i with | some e => e.1 | none => -1
abbrev Nd.fin (n : Nd) : Int := (lastX n.st).1
def Nd.tell (n : Nd) (m : Mg) : Nd := { n with out := n.out ++ [{ m with frm := n.id, term := n.st.term }] }
def Nd.anew (n : Nd) (now : Int) : Nd := { n with deadline := W (W (now + n.wait) + Int.tmod n.draw n.wait) }
def Nd.follow (n : Nd) (id : Int) : Nd := { n with role := 0, known := id }
abbrev snapM (n : Nd) (p : Pr) : Mg := ⟨5, 0, p.id, n.st.snapped, 0, 0, n.st.index, 0, n.st.data, []⟩
abbrev entM (n : Nd) (p : Pr) : Mg := ⟨3, 0, p.id, atT n.st (p.nxt - 1), n.commit, 0, p.nxt - 1, 0, ⟨#[]⟩, fromX n.st p.nxt 16⟩
abbrev sendM (n : Nd) (p : Pr) : Mg := if p.nxt < n.st.index + 1 then snapM n p else entM n p
def Nd.send (n : Nd) (p : Pr) : Nd := n.tell (sendM n p)
def Nd.all (n : Nd) : Nd := n.ps.foldl Nd.send n
def quart (w : Int) : Int := if 1 > Int.tdiv w 4 then 1 else Int.tdiv w 4
def Nd.beats (n : Nd) (now : Int) : Nd := { n.all with beat := W (now + quart n.wait) }
def maj (ps : List Pr) (f : Pr → Bool) : Bool := decide (2 * (1 + (ps.countP f : Int)) > (ps.length : Int) + 1)
def Nd.adv (n : Nd) : Nat → Int → Nd
  | 0, _ => n
  | f + 1, k => if atT n.st k = n.st.term ∧ maj n.ps (fun p => decide (p.mat ≥ k)) = true then { n with commit := k } else n.adv f (k - 1)
def Nd.advance (n : Nd) : Nd := n.adv (n.fin - n.commit).toNat n.fin
def Nd.put (size : Int) (n : Nd) (data : ByteArray) : Int × Int × Nd :=
  (n.fin + 1, (putS size n.st n.fin [(n.st.term, n.fin + 1, data)]).1, { n with st := (putS size n.st n.fin [(n.st.term, n.fin + 1, data)]).2 })
def Nd.lead1 (n : Nd) : Nd := { n with role := 2, known := n.id, ps := n.ps.map fun p => { p with nxt := n.fin + 1, mat := 0 } }
def Nd.lead (size : Int) (n : Nd) (now : Int) : Nd :=
  if (n.lead1.put size ⟨#[]⟩).2.1 ≠ 0 then (n.lead1.put size ⟨#[]⟩).2.2.follow 0 else ((n.lead1.put size ⟨#[]⟩).2.2.advance).beats now
abbrev nvote (p : Pr) : Pr := { p with vote := false }
abbrev askM (n : Nd) (p : Pr) : Mg := ⟨1, 0, p.id, (lastX n.st).2, 0, 0, (lastX n.st).1, 0, ⟨#[]⟩, []⟩
def Nd.asks (n : Nd) : Nd := n.ps.foldl (fun m p => m.tell (askM n p)) n
def Nd.turn (size : Int) (n : Nd) (t v : Int) : Int × Nd := ((turnS size n.st t v).1, { n with st := (turnS size n.st t v).2 })
def Nd.cand (n : Nd) : Nd := { n with role := 1, known := 0, ps := n.ps.map nvote }
def Nd.stand (size : Int) (n : Nd) (now : Int) : Nd :=
  let r := (n.anew now).turn size (n.st.term + 1) n.id
  if r.1 ≠ 0 then r.2 else if maj r.2.cand.ps (·.vote) = true then r.2.cand.lead size now else r.2.cand.asks
def dist (d : Int) : Int := if d < 0 then -(d + 1) else d
def Nd.said (n : Nd) : Nd := { n with out := [] }
def Nd.tick1 (size : Int) (n : Nd) (now : Int) : Nd :=
  if n.role = 2 then (if now ≥ n.beat then n.beats now else n)
  else
    let n2 := if n.deadline = -1 then n.anew now else n
    if now ≥ n2.deadline then n2.stand size now else n2
def Nd.tick (size : Int) (n : Nd) (now draw : Int) : Nd := ({ n with draw := dist draw } : Nd).tick1 size now
abbrev tellM (kind to index err : Int) : Mg := ⟨kind, 0, to, 0, 0, 0, index, err, ⟨#[]⟩, []⟩
def Nd.voteOk (n : Nd) (m : Mg) : Bool := decide ((m.last > (lastX n.st).2 ∨ m.last = (lastX n.st).2 ∧ m.index ≥ (lastX n.st).1) ∧ n.role ≠ 2 ∧ (n.st.vote = 0 ∨ n.st.vote = m.frm))
def Nd.voteAsk (size : Int) (n : Nd) (now : Int) (m : Mg) : Nd :=
  if n.voteOk m = false then n.tell (tellM 2 m.frm 0 19)
  else
    let r := n.turn size n.st.term m.frm
    if r.1 ≠ 0 then r.2.tell (tellM 2 m.frm 0 19) else (r.2.tell (tellM 2 m.frm 0 0)).anew now
def Nd.setP (n : Nd) (k : Nat) (f : Pr → Pr) : Nd := { n with ps := n.ps.modify k f }
def Nd.voteTell (size : Int) (n : Nd) (now : Int) (k : Nat) (m : Mg) : Nd :=
  if n.role ≠ 1 ∨ m.err ≠ 0 then n
  else
    let n2 := n.setP k fun p => { p with vote := true }
    if maj n2.ps (·.vote) = true then n2.lead size now else n2
def Nd.badAsk (n : Nd) (m : Mg) : Bool := decide (m.index < 0 ∨ m.index > n.fin ∨ m.index ≥ n.st.index ∧ atT n.st m.index ≠ m.last)
abbrev minI (a b : Int) : Int := if b < a then b else a
abbrev maxI (a b : Int) : Int := if b > a then b else a
def Nd.appendAsk (size : Int) (n : Nd) (now : Int) (m : Mg) : Nd :=
  if n.role = 2 then n
  else
    let n1 := (n.follow m.frm).anew now
    if n1.badAsk m = true then n1.tell (tellM 4 m.frm (maxI 0 (minI n1.fin (W (m.index - 1)))) 11)
    else
      let r := putS size n1.st m.index m.ents
      let n2 := { n1 with st := r.2 }
      if r.1 ≠ 0 then n2.tell (tellM 4 m.frm 0 r.1)
      else ({ n2 with commit := maxI n2.commit (minI (W (m.index + m.ents.length)) m.high) } : Nd).tell (tellM 4 m.frm (W (m.index + m.ents.length)) 0)
def Nd.snapAsk (size : Int) (n : Nd) (now : Int) (m : Mg) : Nd :=
  if n.role = 2 then n
  else
    let n1 := (n.follow m.frm).anew now
    if m.index > n1.commit then
      let r := snapS size n1.st m.index m.last m.text
      let n2 := { n1 with st := r.2 }
      if r.1 ≠ 0 then n2.tell (tellM 6 m.frm 0 r.1) else ({ n2 with commit := m.index } : Nd).tell (tellM 6 m.frm m.index 0)
    else n1.tell (tellM 6 m.frm m.index 0)
def Nd.sendTo (n : Nd) (k : Nat) : Nd := match n.ps[k]? with | some p => n.send p | none => n
abbrev gotP (e i : Int) (p : Pr) : Pr := { p with nxt := maxI p.mat (minI i e) + 1, mat := maxI p.mat (minI i e) }
abbrev backP (i : Int) (p : Pr) : Pr := { p with nxt := maxI (maxI 1 (p.mat + 1)) (minI (W (p.nxt - 1)) (W (i + 1))) }
def Nd.matched (n : Nd) (k : Nat) (m : Mg) : Nd :=
  if n.role ≠ 2 then n
  else if m.err = 0 then
    let n2 := (n.setP k (gotP n.fin m.index)).advance
    match n2.ps[k]? with
    | some p => if p.nxt ≤ n.fin then n2.send p else n2
    | none => n2
  else if m.err = 11 ∧ m.kind = 4 then (n.setP k (backP m.index)).sendTo k
  else n
def Nd.place (n : Nd) (id : Int) : Option Nat := n.ps.findIdx? fun p => p.id == id
def Nd.step2 (size : Int) (n : Nd) (now : Int) (k : Nat) (m : Mg) : Nd :=
  if m.kind = 1 then n.voteAsk size now m else if m.kind = 2 then n.voteTell size now k m else if m.kind = 3 then n.appendAsk size now m
  else if m.kind = 5 then n.snapAsk size now m else n.matched k m
def Nd.step1 (size : Int) (n : Nd) (now : Int) (k : Nat) (m : Mg) : Nd :=
  if m.term < n.st.term then (if Int.tmod m.kind 2 = 1 then n.tell (tellM (m.kind + 1) m.frm 0 13) else n) else n.step2 size now k m
def Nd.step (size : Int) (n : Nd) (now : Int) (m : Mg) : Nd :=
  match n.place m.frm with
  | none => n
  | some k =>
    if m.to ≠ n.id ∨ m.kind < 1 ∨ m.kind > 6 ∨ m.term < 0 then n
    else if m.term > n.st.term then
      let r := n.turn size m.term 0
      if r.1 ≠ 0 then r.2 else (r.2.follow 0).step1 size now k m
    else n.step1 size now k m
def Nd.propose (size : Int) (n : Nd) (data : ByteArray) : Int × Int × Nd :=
  if n.role ≠ 2 then (0, 15, n)
  else
    let r := n.put size data
    if r.2.1 ≠ 0 then (0, r.2.1, r.2.2) else (r.1, 0, r.2.2.advance.all)
def Nd.takeL (n : Nd) : List En :=
  let t := if n.st.index > n.taken then n.st.index else n.taken
  (if n.st.index > n.taken then [(n.st.snapped, n.st.index, n.st.data)] else []) ++ (if t < n.commit then fromX n.st (t + 1) (n.commit - t) else [])
def Nd.took (n : Nd) : Nd := { n with taken := maxI (if n.st.index > n.taken then n.st.index else n.taken) n.commit }
def newN (id : Int) (voters : List Int) (wait : Int) (st : RS) : Nd :=
  ⟨id, wait, 0, 0, st.index, 0, -1, 0, 0, (voters.filter fun v => v != id).map fun v => ⟨v, 0, 0, false⟩, st, []⟩
end Go.Proofs.YthldclmeojkboaaGreatDoor
namespace Go.Proofs.YthldclmeojkboaaGreatDoor
open Go Go.HL
set_option maxHeartbeats 3200000
set_option maxRecDepth 10000
abbrev mgV (x : Mg) (s : Sl) : List Value := [.int .i64 x.kind, .int .i64 x.frm, .int .i64 x.to, .int .i64 0, .int .i64 0, .int .i64 0, .int .i64 0, .int .i64 x.last, .int .i64 0, .int .i64 x.high, .int .i64 x.term, .int .i64 x.index, .int .i64 0, .int .i64 0, .int .i64 0, .int .i64 x.err, .string (⟨#[]⟩ : ByteArray), .string x.text, .slice none 0 0, .slice s.p s.n s.c, .slice none 0 0]
abbrev mgA (x : Mg) (s : Sl) : Value := .agg #[.int .i64 x.kind, .int .i64 x.frm, .int .i64 x.to, .int .i64 0, .int .i64 0, .int .i64 0, .int .i64 0, .int .i64 x.last, .int .i64 0, .int .i64 x.high, .int .i64 x.term, .int .i64 x.index, .int .i64 0, .int .i64 0, .int .i64 0, .int .i64 x.err, .string (⟨#[]⟩ : ByteArray), .string x.text, .slice none 0 0, .slice s.p s.n s.c, .slice none 0 0]
abbrev Mo := Mg × Sl
abbrev eM : Mo → List Value := fun x => mgV x.1 x.2
theorem eMlen : ∀ a, (eM a).length = 21 := fun _ => rfl
abbrev ePt : Nat → List Value := fun b => [.pointer (some ⟨b, 0, none⟩)]
theorem ePtlen : ∀ a, (ePt a).length = 1 := fun _ => rfl
theorem okMg : ElemOK Tryz.prog 36 33 21 := ElemOK.of (by kernel_rfl)
def MsIn (A : Heap) (l : List Mo) : Prop := ∀ x ∈ l, Recs eE A x.2 x.1.ents
theorem MsIn.sub {A A' : Heap} {l : List Mo} (h : MsIn A l) (s : HL.Sub A A') : MsIn A' l := fun x hx => Recs.mono _ _ s (h x hx)
theorem MsIn.snoc {A : Heap} {l : List Mo} {x : Mo} (h : MsIn A l) (hx : Recs eE A x.2 x.1.ents) : MsIn A (l ++ [x]) := fun y hy => by
  rcases List.mem_append.1 hy with g | g
  · exact h y g
  · rw [List.mem_singleton.1 g]; exact hx
abbrev prA (p : Pr) : Array Value := #[.int .i64 p.id, .int .i64 p.nxt, .int .i64 p.mat, .bool p.vote]
abbrev prC (b : Nat) (p : Pr) : Chunk := blk b (.cells (prA p) 109 (0, 0))
def peersL (bs : List Nat) (ps : List Pr) : List Chunk := List.zipWith prC bs ps
abbrev nArr (c : Nat) (s : Sl) (n : Nd) (o : Sl) : Array Value := #[.int .i64 n.id, .int .i64 n.wait, .pointer (some ⟨c, 0, none⟩), .int .i64 n.role, .int .i64 n.known, .slice s.p s.n s.c, .int .i64 n.commit, .int .i64 n.taken, .int .i64 n.deadline, .int .i64 n.beat, .int .i64 n.draw, .slice o.p o.n o.c]
abbrev nodL (q c d : Nat) (size : Int) (s : Sl) (bs : List Nat) (n : Nd) (o : Sl) (ms : List Mo) : List Chunk :=
  blk q (.cells (nArr c s n o) 96 (0, 0)) :: lgu c d size n.st :: own 33 21 o (ms.flatMap eM) :: own 107 1 s (bs.flatMap ePt) :: peersL bs n.ps
def nodB (A : Heap) (q c d : Nat) (size : Int) (s : Sl) (bs : List Nat) (n : Nd) : Chunk := fun H => ∃ x : Sl × List Mo, (bs.length = n.ps.length ∧ x.2.map Prod.fst = n.out ∧ MsIn A x.2) ∧ HL.Holds (nodL q c d size s bs n x.1 x.2) H
structure NdOk (n : Nd) : Prop where
  wait : 1 ≤ n.wait ∧ n.wait ≤ 1000000
  draw : 0 ≤ n.draw ∧ n.draw ≤ 9223372036854775807
  ps : n.ps.length ≤ 6
  nxt : ∀ p ∈ n.ps, 0 ≤ p.nxt ∧ p.nxt ≤ 1000000001 ∧ 0 ≤ p.mat ∧ p.mat ≤ 1000000000
  commit : 0 ≤ n.commit ∧ n.commit ≤ 2000000000
theorem peersL_at {bs : List Nat} {ps : List Pr} {i b : Nat} {p : Pr} (hb : bs[i]? = some b) (hp : ps[i]? = some p) : (peersL bs ps)[i]? = some (prC b p) := by
  unfold peersL; rw [List.getElem?_zipWith, hb, hp]
theorem peersL_set {bs : List Nat} {ps : List Pr} {i b : Nat} {p : Pr} (hb : bs[i]? = some b) : (peersL bs ps).set i (prC b p) = peersL bs (ps.set i p) := by
  apply List.ext_getElem?
  intro j
  unfold peersL
  rw [List.getElem?_set, List.getElem?_zipWith, List.getElem?_zipWith, List.getElem?_set, List.length_zipWith]
  by_cases e : i = j
  · subst e
    have hi : i < bs.length := (List.getElem?_eq_some_iff.1 hb).1
    simp only [if_true]
    by_cases g : i < ps.length
    · rw [if_pos (by omega), if_pos g, hb]
    · rw [if_neg (by omega), if_neg g]; cases bs[i]? <;> rfl
  · simp only [if_neg e]
section
variable {cs : List Chunk} {H A : Heap} {K : Value → Heap → Prop} {q c d : Nat} {size : Int} {s : Sl} {bs : List Nat} {n : Nd}
theorem nodB_open : HL.Holds (nodB A q c d size s bs n :: cs) H ↔ ∃ o ms, (bs.length = n.ps.length ∧ ms.map Prod.fst = n.out ∧ MsIn A ms) ∧ HL.Holds (nodL q c d size s bs n o ms ++ cs) H := by
  constructor
  · intro h
    obtain ⟨x, h⟩ := Holds.ex.1 h
    obtain ⟨e, h⟩ := Holds.pure.1 h
    exact ⟨x.1, x.2, e, Holds.flat.1 h⟩
  · rintro ⟨o, ms, e, h⟩
    exact Holds.ex.2 ⟨(o, ms), Holds.pure.2 ⟨e, Holds.flat.2 h⟩⟩
theorem nodB_mono : Mono (nodB A q c d size s bs n) := fun _ _ hs ⟨x, e, h⟩ => ⟨x, e, h.up hs⟩
theorem nodB_sub {A' : Heap} (sA : HL.Sub A A') : ∀ H, nodB A q c d size s bs n H → nodB A' q c d size s bs n H := fun _ ⟨x, e, h⟩ => ⟨x, ⟨e.1, e.2.1, e.2.2.sub sA⟩, h⟩
theorem nodL_at {o : Sl} {ms : List Mo} {i b : Nat} {p : Pr} (hb : bs[i]? = some b) (hp : n.ps[i]? = some p) : (nodL q c d size s bs n o ms ++ cs)[i + 4]? = some (prC b p) := by
  show (peersL bs n.ps ++ cs)[i]? = _
  have h := peersL_at hb hp
  rw [List.getElem?_append_left (List.getElem?_eq_some_iff.1 h).1]; exact h
theorem nodL_set {o : Sl} {ms : List Mo} {i b : Nat} {p p' : Pr} (hb : bs[i]? = some b) (hp : n.ps[i]? = some p) : (nodL q c d size s bs n o ms ++ cs).set (i + 4) (prC b p') = nodL q c d size s bs { n with ps := n.ps.set i p' } o ms ++ cs := by
  show _ :: _ :: _ :: _ :: (peersL bs n.ps ++ cs).set i (prC b p') = _ :: _ :: _ :: _ :: (peersL bs (n.ps.set i p') ++ cs)
  rw [List.set_append_left _ _ (List.getElem?_eq_some_iff.1 (peersL_at hb hp)).1, peersL_set hb]
theorem nodB_lg {i : Nat} (h : HL.Holds cs H) (ei : cs[i]? = some (nodB A q c d size s bs n)) : Lg n.st := by
  obtain ⟨x, -, hh⟩ := h.read i ei nodB_mono
  exact (lgu_ok (i := 1) hh rfl).1
theorem Holds.pushS {P : Program} {t e sz : Nat} (hE : ElemOK P t e sz) {ty : Nat} {s : Sl} {vs : List Value} {G : Heap} (sG : HL.Sub G H) (h : HL.Holds (own e sz s vs :: cs) H) {xs : List Value} {T m : Nat} (hxl : xs.length = m * sz) (hnt : noTups xs = true)
    (hb : s.n + m ≤ 268435456) (k : ∀ (r : Sl) H', HL.Holds (own e sz r (vs ++ xs) :: cs) H' → r.n = s.n + m → K (.slice r.p r.n r.c) H') :
    ∀ q, H q = none → letH (H.upd q (.cells xs.toArray T (0, 0))) fun H1 => HL.Sub G H1 ∧ runH P (Builtin.append_ #[t, t] ty #[.slice s.p s.n s.c, .slice (some ⟨q, 0, none⟩) m m]) H1 K := by
  refine h.newS fun q H1 s1 h1 => ⟨sG.trans s1, ?_⟩
  have hx : CellsAt H1 (some ⟨q, 0, none⟩) xs := CellsAt.block (h1.get 0 rfl) fun i hi => by simp [hi]
  exact Holds.append hE hE.under h1.swap hx hxl hnt hb fun r H' h3 n3 => k r H' h3.swap.tail n3
theorem tell10_spec {x : Mg} {sl : Sl} (h : HL.Holds (nodB A q c d size s bs n :: ro A :: cs) H) (hx : Recs eE A sl x.ents) (ho : n.out.length ≤ 100000) (k : ∀ H', HL.Holds (nodB A q c d size s bs (n.tell x) :: ro A :: cs) H' → K (.tuple #[]) H') :
    FnH Tryz.prog 47 #[.pointer (some ⟨q, 0, none⟩), mgA x sl] H K := by
  refine raft_Node_tell_fn q 0 x.kind x.frm x.to 0 0 0 0 x.last 0 x.high x.term x.index 0 0 0 x.err ⟨#[]⟩ x.text ⟨none, 0, 0⟩ sl ⟨none, 0, 0⟩ ?_
  unfold raft_Node_tell_vc
  obtain ⟨o, ms, ⟨e1, e2, e3⟩, h1⟩ := nodB_open.1 h
  have hol : o.n = ms.length := by
    have := (h1.own 2 rfl).1
    rw [flat_len eMlen] at this
    exact (Nat.eq_of_mul_eq_mul_right (by decide) this).symm
  have hml : ms.length = n.out.length := by rw [← e2, List.length_map]
  refine ⟨_, h1.cell 0 rfl rfl, _, h1.cell 0 rfl rfl, ptrm_intro rfl (term10_spec (i := 1) h1 rfl ⟨_, rfl, HL.Sub.refl _, o, h1.cell 0 rfl rfl, ?_⟩)⟩
  refine Holds.pushS okMg (HL.Sub.refl _) (h1.pull 2 rfl) (xs := eM ({ x with frm := n.id, term := n.st.term }, sl)) (m := 1) rfl rfl (by omega) fun r H2 h2 n2 => ⟨r, rfl, ?_⟩
  refine h2.store 1 rfl (by simp) fun H3 h3 => k H3 (nodB_open.2 ⟨r, ms ++ [({ x with frm := n.id, term := n.st.term }, sl)], ⟨e1, ?_, e3.snoc hx⟩, ?_⟩)
  · rw [List.map_append, e2]; rfl
  · have ef : ms.flatMap eM ++ eM ({ x with frm := n.id, term := n.st.term }, sl) = (ms ++ [({ x with frm := n.id, term := n.st.term }, sl)]).flatMap eM := by simp
    rw [ef] at h3
    exact h3.down 2
theorem said10_spec (h : HL.Holds (nodB A q c d size s bs n :: ro A :: cs) H) (k : ∀ (o : Sl) (ms : List Mo) H', ms.map Prod.fst = n.out → MsIn A ms → HL.Holds (own 33 21 o (ms.flatMap eM) :: nodB A q c d size s bs n.said :: ro A :: cs) H' → K (.slice o.p o.n o.c) H') :
    FnH Tryz.prog 37 #[.pointer (some ⟨q, 0, none⟩)] H K := by
  apply raft_Node_said_fn
  unfold raft_Node_said_vc
  obtain ⟨o, ms, ⟨e1, e2, e3⟩, h1⟩ := nodB_open.1 h
  refine ⟨o, h1.cell 0 rfl rfl, h1.store 0 rfl (by simp) fun H2 h2 => k o ms H2 e2 e3 ?_⟩
  have h4 := (h2.own_nil 33 21).down 2
  have h5 : HL.Holds (own 33 21 o (ms.flatMap eM) :: (nodL q c d size s bs n.said ⟨none, 0, 0⟩ [] ++ ro A :: cs)) H2 := h4.pull 3 rfl
  exact (nodB_open (n := n.said).2 ⟨⟨none, 0, 0⟩, [], ⟨e1, rfl, fun x hx => by cases hx⟩, h5.perm List.perm_middle.symm⟩).swap
theorem anew10_spec {now : Int} (h : HL.Holds (nodB A q c d size s bs n :: cs) H) (hw : 1 ≤ n.wait) (k : ∀ H', HL.Holds (nodB A q c d size s bs (n.anew now) :: cs) H' → K (.tuple #[]) H') : FnH Tryz.prog 38 #[.pointer (some ⟨q, 0, none⟩), .int .i64 now] H K := by
  apply raft_Node_anew_fn
  unfold raft_Node_anew_vc
  obtain ⟨o, ms, e, h1⟩ := nodB_open.1 h
  exact ⟨_, h1.cell 0 rfl rfl, _, h1.cell 0 rfl rfl, _, h1.cell 0 rfl rfl, by omega, h1.store 0 rfl (by simp) fun H2 h2 => k H2 (nodB_open.2 ⟨o, ms, e, h2⟩)⟩
theorem follow10_spec {id : Int} (h : HL.Holds (nodB A q c d size s bs n :: cs) H) (k : ∀ H', HL.Holds (nodB A q c d size s bs (n.follow id) :: cs) H' → K (.tuple #[]) H') : FnH Tryz.prog 46 #[.pointer (some ⟨q, 0, none⟩), .int .i64 id] H K := by
  apply raft_Node_follow_fn
  unfold raft_Node_follow_vc
  obtain ⟨o, ms, e, h1⟩ := nodB_open.1 h
  refine h1.store 0 rfl (by simp) fun H2 h2 => ?_
  have h2 : HL.Holds (nodL q c d size s bs { n with role := 0 } o ms ++ cs) H2 := h2
  exact h2.store 0 rfl (by simp) fun H3 h3 => k H3 (nodB_open.2 ⟨o, ms, e, h3⟩)
theorem at10n_spec {i : Nat} {x : Int} (h : HL.Holds cs H) (ei : cs[i]? = some (nodB A q c d size s bs n)) (hx : x ≤ 9223372036854775807) (k : K (.int .i64 (atT n.st x)) H) : FnH Tryz.prog 90 #[.pointer (some ⟨q, 0, none⟩), .int .i64 x] H K := by
  apply raft_Node_at_fn
  unfold raft_Node_at_vc
  obtain ⟨⟨o, ms⟩, e, h1⟩ := h.read i ei nodB_mono
  refine ⟨_, h1.cell 0 rfl rfl, ptrm_intro rfl (snapshot10_spec (i := 1) h1 rfl ⟨_, _, _, rfl, _, h1.cell 0 rfl rfl, ptrm_intro rfl ?_⟩)⟩
  have fin : ∀ (v : Int) (b : Bool), (¬ x = 0 → ¬ x = n.st.index → atT n.st x = if b = true then v else -1) →
      br (x == 0) (K (.int .i64 0) H) (br (x == n.st.index) (K (.int .i64 n.st.snapped) H) (br b (K (.int .i64 v) H) (K (.int .i64 (-1)) H))) := fun v b e => by
    refine br_intro (fun y => ?_) (fun y => br_intro (fun z => ?_) (fun z => ?_))
    · have y : x = 0 := by simpa using y
      unfold atT at k; rw [if_pos y] at k; exact k
    · have y : ¬ x = 0 := by simpa using y
      have z : x = n.st.index := by simpa using z
      unfold atT at k; rw [if_neg y, if_pos z] at k; exact k
    · rw [e (by simpa using y) (by simpa using z)] at k
      cases b
      · exact br_f rfl k
      · exact br_t rfl k
  refine at10_spec (i := 1) h1 rfl hx (fun g => ⟨_, _, _, _, rfl, fin 0 false fun y z => ?_⟩) fun e g => ⟨_, _, _, _, rfl, fin e.1 true fun y z => ?_⟩
  all_goals unfold atT; rw [if_neg y, if_neg z, g]; rfl
end
end Go.Proofs.YthldclmeojkboaaGreatDoor
namespace Go.Proofs.YthldclmeojkboaaGreatDoor
open Go Go.HL
set_option maxHeartbeats 1600000
set_option maxRecDepth 10000
theorem fromX_len (st : RS) (i m : Int) : (fromX st i m).length ≤ m.toNat := by
  unfold fromX
  split
  · simp
  · rw [List.length_take]; omega
theorem tells_ps (n : Nd) (f : Nd → Pr → Mg) : ∀ (l : List Pr) (m : Nd), (l.foldl (fun m p => m.tell (f m p)) m).ps = m.ps ∧ (l.foldl (fun m p => m.tell (f m p)) m).st = m.st ∧ (l.foldl (fun m p => m.tell (f m p)) m).commit = m.commit ∧ (l.foldl (fun m p => m.tell (f m p)) m).wait = m.wait ∧ (l.foldl (fun m p => m.tell (f m p)) m).draw = m.draw ∧
    (l.foldl (fun m p => m.tell (f m p)) m).out.length = m.out.length + l.length
  | [], m => ⟨rfl, rfl, rfl, rfl, rfl, rfl⟩
  | p :: l, m => by
    obtain ⟨a, b, c, d, e, g⟩ := tells_ps n f l (m.tell (f m p))
    refine ⟨a, b, c, d, e, ?_⟩
    rw [List.foldl_cons, g]
    simp [Nd.tell]; omega
theorem sends_ps (l : List Pr) (m : Nd) : (l.foldl Nd.send m).ps = m.ps ∧ (l.foldl Nd.send m).st = m.st ∧ (l.foldl Nd.send m).commit = m.commit ∧ (l.foldl Nd.send m).wait = m.wait ∧ (l.foldl Nd.send m).draw = m.draw ∧ (l.foldl Nd.send m).out.length = m.out.length + l.length :=
  tells_ps m sendM l m
theorem NdOk.of {n m : Nd} (h : NdOk n) (e1 : m.ps = n.ps) (e2 : m.commit = n.commit) (e3 : m.wait = n.wait) (e4 : m.draw = n.draw) : NdOk m :=
  ⟨by rw [e3]; exact h.wait, by rw [e4]; exact h.draw, by rw [e1]; exact h.ps, by rw [e1]; exact h.nxt, by rw [e2]; exact h.commit⟩
theorem NdOk.sends {n : Nd} (h : NdOk n) (l : List Pr) : NdOk (l.foldl Nd.send n) := by
  obtain ⟨a, -, c, d, e, -⟩ := sends_ps l n
  exact h.of a c d e
theorem into_store {cs : List Chunk} {H A : Heap} {c : Chunk} (h : HL.Holds (c :: ro A :: cs) H) (hm : Mono c) : ∃ A', HL.Sub A A' ∧ c A' ∧ HL.Holds (ro A' :: cs) H := by
  have h2 : HL.Holds (HL.Holds [c, ro A] :: cs) H := Holds.flat.2 h
  obtain ⟨A', R, e, d, hA, hR⟩ := h2
  exact ⟨A', hA.sub 1 rfl, hA.read 0 rfl hm, ⟨A', R, e, d, HL.Sub.refl _, hR⟩⟩
section
variable {cs : List Chunk} {H A : Heap} {K : Value → Heap → Prop} {q c d : Nat} {size : Int} {s : Sl} {bs : List Nat} {n : Nd}
theorem nodB_sub' {A' : Heap} (sA : HL.Sub A A') (h : HL.Holds (nodB A q c d size s bs n :: cs) H) : HL.Holds (nodB A' q c d size s bs n :: cs) H := h.head (nodB_sub sA)
theorem send10_spec {k b : Nat} {p : Pr} (h : HL.Holds (nodB A q c d size s bs n :: ro A :: cs) H) (hb : bs[k]? = some b) (hp : n.ps[k]? = some p) (hn : NdOk n) (ho : n.out.length ≤ 100000)
    (kk : ∀ A' H', HL.Sub A A' → HL.Holds (nodB A' q c d size s bs (n.send p) :: ro A' :: cs) H' → K (.tuple #[]) H') : FnH Tryz.prog 88 #[.pointer (some ⟨q, 0, none⟩), .pointer (some ⟨b, 0, none⟩)] H K := by
  refine raft_Node_send_fn q 0 b 0 ?_
  unfold raft_Node_send_vc
  obtain ⟨o, ms, e, h1⟩ := nodB_open.1 h
  have at_ := nodL_at (cs := ro A :: cs) (q := q) (c := c) (d := d) (size := size) (s := s) (o := o) (ms := ms) hb hp
  have hx := hn.nxt p (List.mem_of_getElem? hp)
  have c0 : cellH H ⟨b, 0, none⟩ = some (.int .i64 p.id) := h1.cell (k + 4) at_ rfl
  have c1 : cellH H ⟨b, 0 + 1, none⟩ = some (.int .i64 p.nxt) := h1.cell (k + 4) at_ rfl
  refine ⟨_, c1, _, h1.cell 0 rfl rfl, ptrm_intro rfl (first10_spec (i := 1) h1 rfl ⟨_, rfl, HL.Sub.refl _, br_intro (fun w => ?_) (fun w => ?_)⟩)⟩
  · have w := of_decide_eq_true w
    have es : n.send p = n.tell (snapM n p) := by unfold Nd.send sendM; rw [if_pos w]
    refine ⟨_, h1.cell 0 rfl rfl, ptrm_intro rfl (snapshot10_spec (i := 1) h1 rfl ⟨_, _, _, rfl, _, c0, tell10_spec (x := snapM n p) (sl := ⟨none, 0, 0⟩) h (Recs.nil _) ho fun H' h' => ⟨rfl, kk A H' (HL.Sub.refl _) ?_⟩⟩)⟩
    rw [es]; exact h'
  · have w := of_decide_eq_false w
    have es : n.send p = n.tell (entM n p) := by unfold Nd.send sendM; rw [if_neg w]
    refine ⟨_, c0, _, c1, _, c1, _, h1.cell 0 rfl rfl, _, h1.cell 0 rfl rfl, ptrm_intro rfl ⟨_, c1, ?_⟩⟩
    rw [wrap64_id (n := p.nxt - 1) (by omega) (by omega)]
    refine at10n_spec (i := 0) h rfl (by omega) ⟨_, rfl, HL.Sub.refl _, from10_spec (i := 1) h1 rfl (by omega) fun r H5 s5 h5 => ⟨r, rfl, s5, ?_⟩⟩
    have h6 : HL.Holds (nodB A q c d size s bs n :: ownE r (fromX n.st p.nxt 16) :: ro A :: cs) H5 := nodB_open.2 ⟨o, ms, e, h5.perm List.perm_middle.symm⟩
    have h7 : HL.Holds (ownE r (fromX n.st p.nxt 16) :: ro A :: nodB A q c d size s bs n :: cs) H5 := h6.down 2
    obtain ⟨A', sA, hO, h8⟩ := into_store h7 Own.mono
    have hl := fromX_len n.st p.nxt 16
    refine tell10_spec (x := entM n p) (sl := r) (nodB_sub' sA h8.swap) (Own.recs eElen (by decide) hO (by show (fromX n.st p.nxt 16).length ≤ _; omega)) ho fun H' h' => ⟨rfl, kk A' H' sA ?_⟩
    rw [es]; exact h'
theorem ptr_at {o : Sl} {ms : List Mo} (h1 : HL.Holds (nodL q c d size s bs n o ms ++ cs) H) {i : Int} (hl : bs.length ≤ 6) (h0 : 0 ≤ i) (hi : i < s.n) : ∃ (pb po b : Nat), s.p = some ⟨pb, po, none⟩ ∧ bs[i.toNat]? = some b ∧ cellH H ⟨pb, po + i.toNat, none⟩ = some (.pointer (some ⟨b, 0, none⟩)) := by
  have hR : Recs ePt H s bs := Own.recs ePtlen (by decide) (h1.own 3 rfl) (by omega)
  obtain ⟨pb, po, b, e1, e2, e3⟩ := hR.at_ ePtlen (by decide) h0 hi
  have := e3 0 _ rfl
  rw [Nat.mul_one] at this
  exact ⟨pb, po, b, e1, e2, this⟩
theorem ptr_len {o : Sl} {ms : List Mo} (h1 : HL.Holds (nodL q c d size s bs n o ms ++ cs) H) (hl : bs.length ≤ 6) : s.n = bs.length := by
  have hR : Recs ePt H s bs := Own.recs ePtlen (by decide) (h1.own 3 rfl) (by omega)
  exact hR.len
theorem all10_spec (h : HL.Holds (nodB A q c d size s bs n :: ro A :: cs) H) (hn : NdOk n) (ho : n.out.length ≤ 99000)
    (kk : ∀ A' H', HL.Sub A A' → HL.Holds (nodB A' q c d size s bs n.all :: ro A' :: cs) H' → K (.tuple #[]) H') : FnH Tryz.prog 55 #[.pointer (some ⟨q, 0, none⟩)] H K := by
  refine raft_Node_all_fn q 0 ?_
  unfold raft_Node_all_vc
  obtain ⟨o, ms, e, h1⟩ := nodB_open.1 h
  have hps := hn.ps
  have hbl : bs.length ≤ 6 := by rw [e.1]; exact hps
  have hsn := ptr_len h1 hbl
  refine ⟨s, h1.cell 0 rfl rfl, fun i H' => 0 ≤ i ∧ i ≤ s.n ∧ ∃ A', HL.Sub A A' ∧ HL.Holds (nodB A' q c d size s bs ((n.ps.take i.toNat).foldl Nd.send n) :: ro A' :: cs) H', fun i _ => (s.n - i).toNat, ⟨Int.le_refl _, by omega, A, HL.Sub.refl _, h⟩, ?_⟩
  clear h1 o ms e h
  rintro i H1 ⟨i0, i1, A', sA, h⟩
  obtain ⟨o, ms, e, h1⟩ := nodB_open.1 h
  refine br_intro (fun w => ?_) (fun w => ?_)
  · have w := of_decide_eq_true w
    obtain ⟨pb, po, b, g1, g2, g3⟩ := ptr_at h1 hbl i0 w
    obtain ⟨a1, a2, a3, a4, a5, a6⟩ := sends_ps (n.ps.take i.toNat) n
    have hlen : n.ps.length = bs.length := by rw [e.1, a1]
    obtain ⟨p, hp⟩ : ∃ p, n.ps[i.toNat]? = some p := ⟨_, List.getElem?_eq_getElem (by omega)⟩
    rw [wrap64_id (n := i + 1) (by omega) (by omega)]
    have htl : (n.ps.take i.toNat).length ≤ 6 := by rw [List.length_take]; omega
    refine ⟨pb, po, g1, i0, w, _, g3, send10_spec (k := i.toNat) h g2 (by rw [a1]; exact hp) (hn.sends _) (by rw [a6]; omega) fun A2 H2 s2 h2 => ⟨rfl, rfl, ⟨by omega, by omega, A2, sA.trans s2, ?_⟩, by dsimp only; omega⟩⟩
    rw [take_step i0 hp, List.foldl_append]; exact h2
  · have w := of_decide_eq_false w
    have hall : (n.ps.take i.toNat) = n.ps := List.take_of_length_le (by rw [e.1, (sends_ps (n.ps.take i.toNat) n).1] at hsn; omega)
    rw [hall] at h
    exact kk A' H1 sA h
theorem NdOk.all {n : Nd} (h : NdOk n) : NdOk n.all := h.sends _
theorem quart_in {w : Int} (h0 : 1 ≤ w) (h1 : w ≤ 1000000) : IntKind.wrap .i64 (Int.tdiv w 4) = Int.tdiv w 4 := by
  rw [Int.tdiv_eq_ediv_of_nonneg (by omega)]
  exact wrap64_id (by omega) (by omega)
theorem beats10_spec {now : Int} (h : HL.Holds (nodB A q c d size s bs n :: ro A :: cs) H) (hn : NdOk n) (ho : n.out.length ≤ 99000)
    (kk : ∀ A' H', HL.Sub A A' → HL.Holds (nodB A' q c d size s bs (n.beats now) :: ro A' :: cs) H' → K (.tuple #[]) H') : FnH Tryz.prog 36 #[.pointer (some ⟨q, 0, none⟩), .int .i64 now] H K := by
  refine raft_Node_beats_fn q 0 now ?_
  unfold raft_Node_beats_vc
  refine all10_spec h hn ho fun A' H1 sA h1 => ⟨rfl, ?_⟩
  obtain ⟨o, ms, e, h2⟩ := nodB_open.1 h1
  have hw : n.all.wait = n.wait := (sends_ps n.ps n).2.2.2.1
  refine ⟨_, h2.cell 0 rfl rfl, by decide, ?_⟩
  rw [hw, quart_in hn.wait.1 hn.wait.2]
  exact h2.store 0 rfl (by simp) fun H3 h3 => kk A' H3 sA (nodB_open.2 ⟨o, ms, e, h3⟩)
theorem maj_eq {ps : List Pr} {f : Pr → Bool} {many : Int} {m : Nat} (hm : many = 1 + (ps.countP f : Int)) (hl : m = ps.length) (hps : ps.length ≤ 6) : decide ((IntKind.wrap .i64 (2 * many)) > (IntKind.wrap .i64 ((m : Int) + 1))) = maj ps f := by
  have hc := List.countP_le_length (p := f) (l := ps)
  rw [wrap64_id (n := 2 * many) (by omega) (by omega), wrap64_id (n := (m : Int) + 1) (by omega) (by omega), hm, hl]
  rfl
theorem countP_step {f : Pr → Bool} {ps : List Pr} {i : Int} {p : Pr} (h0 : 0 ≤ i) (hp : ps[i.toNat]? = some p) : (((ps.take (i + 1).toNat).countP f : Nat) : Int) = ((ps.take i.toNat).countP f : Nat) + (if f p = true then 1 else 0) := by
  rw [take_step h0 hp, List.countP_append, List.countP_singleton]
  split <;> simp_all
theorem majA_spec {kb : Nat} {kv : Int} (h : HL.Holds (nodB A q c d size s bs n :: cs) H) (hk : cellH H ⟨kb, 0, none⟩ = some (.int .i64 kv)) (hps : n.ps.length ≤ 6) (kk : K (.bool (maj n.ps fun p => decide (p.mat ≥ kv))) H) :
    FnH Tryz.prog 79 #[.pointer (some ⟨q, 0, none⟩), .func (.func 93) #[] #[.pointer (some ⟨kb, 0, none⟩)]] H K := by
  refine majority_advance_fn q 0 kb ?_
  unfold majority_advance_vc
  obtain ⟨o, ms, e, h1⟩ := nodB_open.1 h
  have hbl : bs.length ≤ 6 := by rw [e.1]; exact hps
  have hsn := ptr_len h1 hbl
  have e1 := e.1
  refine ⟨s, h1.cell 0 rfl rfl, fun many i H' => H' = H ∧ 0 ≤ i ∧ i ≤ s.n ∧ many = 1 + ((n.ps.take i.toNat).countP (fun p => decide (p.mat ≥ kv)) : Nat), fun _ i _ => (s.n - i).toNat, ⟨rfl, Int.le_refl _, by omega, rfl⟩, ?_⟩
  rintro many i H1 ⟨rfl, i0, i1, hm⟩
  have hc := List.countP_le_length (p := fun p : Pr => decide (p.mat ≥ kv)) (l := n.ps.take i.toNat)
  rw [List.length_take] at hc
  refine br_intro (fun w => ?_) (fun w => ?_)
  · have w := of_decide_eq_true w
    obtain ⟨pb, po, b, g1, g2, g3⟩ := ptr_at h1 hbl i0 w
    obtain ⟨p, hp⟩ : ∃ p, n.ps[i.toNat]? = some p := ⟨_, List.getElem?_eq_getElem (by omega)⟩
    have hcs := countP_step (f := fun p : Pr => decide (p.mat ≥ kv)) i0 hp
    rw [wrap64_id (n := i + 1) (by omega) (by omega), wrap64_id (n := many + 1) (by omega) (by omega)]
    refine ⟨pb, po, g1, i0, w, _, g3, raft_Node_advance_1_fn b 0 kb ⟨_, h1.cell (i.toNat + 4) (nodL_at g2 hp) rfl, _, hk, ⟨_, rfl, br_intro (fun y => ⟨rfl, ⟨rfl, by omega, by omega, ?_⟩, by dsimp only; omega⟩) (fun y => ⟨rfl, ⟨rfl, by omega, by omega, ?_⟩, by dsimp only; omega⟩)⟩⟩⟩
    · rw [hcs, if_pos y]; omega
    · rw [hcs, if_neg (by simpa using y)]; omega
  · have w := of_decide_eq_false w
    have hall : (n.ps.take i.toNat) = n.ps := List.take_of_length_le (by omega)
    rw [hall] at hm
    refine ⟨s, h1.cell 0 rfl rfl, ?_⟩
    rw [maj_eq hm (by omega) hps]
    exact kk
theorem majV_spec (h : HL.Holds (nodB A q c d size s bs n :: cs) H) (hps : n.ps.length ≤ 6) (kk : K (.bool (maj n.ps (·.vote))) H) : FnH Tryz.prog 79 #[.pointer (some ⟨q, 0, none⟩), .func (.func 80) #[] #[]] H K := by
  refine majority_voted_fn q 0 ?_
  unfold majority_voted_vc
  obtain ⟨o, ms, e, h1⟩ := nodB_open.1 h
  have hbl : bs.length ≤ 6 := by rw [e.1]; exact hps
  have hsn := ptr_len h1 hbl
  have e1 := e.1
  refine ⟨s, h1.cell 0 rfl rfl, fun many i H' => H' = H ∧ 0 ≤ i ∧ i ≤ s.n ∧ many = 1 + ((n.ps.take i.toNat).countP (fun p : Pr => p.vote) : Nat), fun _ i _ => (s.n - i).toNat, ⟨rfl, Int.le_refl _, by omega, rfl⟩, ?_⟩
  rintro many i H1 ⟨rfl, i0, i1, hm⟩
  have hc := List.countP_le_length (p := fun p : Pr => p.vote) (l := n.ps.take i.toNat)
  rw [List.length_take] at hc
  refine br_intro (fun w => ?_) (fun w => ?_)
  · have w := of_decide_eq_true w
    obtain ⟨pb, po, b, g1, g2, g3⟩ := ptr_at h1 hbl i0 w
    obtain ⟨p, hp⟩ : ∃ p, n.ps[i.toNat]? = some p := ⟨_, List.getElem?_eq_getElem (by omega)⟩
    have hcs := countP_step (f := fun p : Pr => p.vote) i0 hp
    rw [wrap64_id (n := i + 1) (by omega) (by omega), wrap64_id (n := many + 1) (by omega) (by omega)]
    refine ⟨pb, po, g1, i0, w, _, g3, raft_voted_fn b 0 ⟨_, h1.cell (i.toNat + 4) (nodL_at g2 hp) rfl, ⟨_, rfl, br_intro (fun y => ⟨rfl, ⟨rfl, by omega, by omega, ?_⟩, by dsimp only; omega⟩) (fun y => ⟨rfl, ⟨rfl, by omega, by omega, ?_⟩, by dsimp only; omega⟩)⟩⟩⟩
    · rw [hcs, if_pos y]; omega
    · rw [hcs, if_neg (by simpa using y)]; omega
  · have w := of_decide_eq_false w
    have hall : (n.ps.take i.toNat) = n.ps := List.take_of_length_le (by omega)
    rw [hall] at hm
    refine ⟨s, h1.cell 0 rfl rfl, ?_⟩
    rw [maj_eq hm (by omega) hps]
    exact kk
theorem gLit (qb : Nat) (x : En) : Gives (blk qb (.cells #[.int .i64 x.1, .int .i64 x.2.1, .string x.2.2] 51 (0, 0))) fun A => Recs eE A ⟨some ⟨qb, 0, none⟩, 1, 1⟩ [x] :=
  ⟨blk_mono _ _, fun H h => ⟨rfl, Nat.le_refl _, by show 1 ≤ _; decide, CellsAt.block (show H qb = _ from h) fun i hi => by
    have hi : i < 3 := hi
    match i, hi with
    | 0, _ => rfl
    | 1, _ => rfl
    | 2, _ => rfl⟩⟩
theorem put10n_spec {data : ByteArray} (h : HL.Holds (nodB A q c d size s bs n :: ro A :: cs) H) (hl : n.st.l.length ≤ 99000)
    (kk : ∀ H', HL.Holds (nodB A q c d size s bs (n.put size data).2.2 :: ro A :: cs) H' → K (.tuple #[.int .i64 (n.put size data).1, .int .i64 (n.put size data).2.1]) H') : FnH Tryz.prog 53 #[.pointer (some ⟨q, 0, none⟩), .string data] H K := by
  refine raft_Node_put_fn q 0 data ?_
  unfold raft_Node_put_vc
  obtain ⟨o, ms, e, h1⟩ := nodB_open.1 h
  have hL := (lgu_ok (i := 1) h1 rfl).1
  have hf := hL.ok.last_le
  have hf0 : 0 ≤ (lastX n.st).1 := by rw [hL.ok.good.last]; have := hL.ok.index.1; omega
  refine ⟨_, h1.cell 0 rfl rfl, ptrm_intro rfl (last10_spec (i := 1) h1 rfl ⟨_, _, rfl, _, h1.cell 0 rfl rfl, _, h1.cell 0 rfl rfl, ptrm_intro rfl (term10_spec (i := 1) h1 rfl ⟨_, rfl, HL.Sub.refl _, ?_⟩)⟩)⟩
  rw [wrap64_id (n := (lastX n.st).1 + 1) (by omega) (by omega)]
  refine h1.newS fun q3 H3 s3 h3 => ⟨s3, ?_⟩
  refine put10_spec (i := 0) (s := ⟨some ⟨q3, 0, none⟩, 1, 1⟩) (h3.pull 2 rfl) (gLit q3 (n.st.term, n.fin + 1, data)) rfl (by show 1 ≤ _; decide) (by show _ + 1 ≤ _; omega) fun H4 h4 => ⟨_, rfl, kk H4 ?_⟩
  have h5 : HL.Holds (lgu c d size (n.put size data).2.2.st :: blk q (.cells (nArr c s n o) 96 (0, 0)) :: own 33 21 o (ms.flatMap eM) :: own 107 1 s (bs.flatMap ePt) :: (peersL bs n.ps ++ ro A :: cs)) H4 := h4.swap.tail
  exact nodB_open.2 ⟨o, ms, e, h5.swap⟩
end
end Go.Proofs.YthldclmeojkboaaGreatDoor
namespace Go.Proofs.YthldclmeojkboaaGreatDoor
open Go Go.HL
set_option maxHeartbeats 1600000
set_option maxRecDepth 10000
def kvOf (H : Heap) (b : Nat) : Int := match cellH H ⟨b, 0, none⟩ with | some (.int _ v) => v | _ => 0
theorem kvOf_eq {H : Heap} {b : Nat} {v : Int} (h : cellH H ⟨b, 0, none⟩ = some (.int .i64 v)) : kvOf H b = v := by unfold kvOf; rw [h]
theorem adv_step {n : Nd} {k : Int} (h : n.commit < k) : n.adv (k - n.commit).toNat k = if atT n.st k = n.st.term ∧ maj n.ps (fun p => decide (p.mat ≥ k)) = true then { n with commit := k } else n.adv (k - 1 - n.commit).toNat (k - 1) := by
  have e : (k - n.commit).toNat = (k - 1 - n.commit).toNat + 1 := by omega
  rw [e]; rfl
theorem adv_same (n : Nd) : ∀ (f : Nat) (k : Int), (n.adv f k).ps = n.ps ∧ (n.adv f k).st = n.st ∧ (n.adv f k).wait = n.wait ∧ (n.adv f k).draw = n.draw ∧ (n.adv f k).out = n.out ∧ (n.adv f k).role = n.role ∧ (n.adv f k).id = n.id ∧ ((n.adv f k).commit = n.commit ∨ ∃ j : Int, (n.adv f k).commit = j ∧ j ≤ k ∧ k - f < j)
  | 0, _ => ⟨rfl, rfl, rfl, rfl, rfl, rfl, rfl, .inl rfl⟩
  | f + 1, k => by
    have e : n.adv (f + 1) k = if atT n.st k = n.st.term ∧ maj n.ps (fun p => decide (p.mat ≥ k)) = true then { n with commit := k } else n.adv f (k - 1) := rfl
    rw [e]
    split
    · exact ⟨rfl, rfl, rfl, rfl, rfl, rfl, rfl, .inr ⟨k, rfl, Int.le_refl _, by omega⟩⟩
    · obtain ⟨a, b, c, d, e, g, i, j⟩ := adv_same n f (k - 1)
      refine ⟨a, b, c, d, e, g, i, j.imp_right ?_⟩
      rintro ⟨x, h1, h2, h3⟩
      exact ⟨x, h1, by omega, by omega⟩
theorem NdOk.advance {n : Nd} (h : NdOk n) (hf : n.fin ≤ 1000000000) : NdOk n.advance := by
  obtain ⟨a, b, c, d, e, g, i, j⟩ := adv_same n (n.fin - n.commit).toNat n.fin
  refine ⟨by rw [Nd.advance, c]; exact h.wait, by rw [Nd.advance, d]; exact h.draw, by rw [Nd.advance, a]; exact h.ps, by rw [Nd.advance, a]; exact h.nxt, ?_⟩
  have := h.commit
  unfold Nd.advance
  rcases j with j | ⟨x, j, h1, h2⟩
  · rw [j]; exact this
  · rw [j]; omega
section
variable {cs : List Chunk} {H A : Heap} {K : Value → Heap → Prop} {q c d : Nat} {size : Int} {s : Sl} {bs : List Nat} {n : Nd}
theorem advance10_spec (h : HL.Holds (nodB A q c d size s bs n :: ro A :: cs) H) (hn : NdOk n) (kk : ∀ H', HL.Holds (nodB A q c d size s bs n.advance :: ro A :: cs) H' → K (.tuple #[]) H') : FnH Tryz.prog 54 #[.pointer (some ⟨q, 0, none⟩)] H K := by
  refine raft_Node_advance_fn q 0 ?_
  unfold raft_Node_advance_vc
  obtain ⟨o, ms, e, h1⟩ := nodB_open.1 h
  have hL := (lgu_ok (i := 1) h1 rfl).1
  have hf : n.fin ≤ 1000000000 := hL.ok.last_le
  have hc := hn.commit
  refine ⟨_, h1.cell 0 rfl rfl, ptrm_intro rfl (last10_spec (i := 1) h1 rfl ⟨_, _, rfl, h.new fun q2 H2 h2 => h2.store 0 rfl (by simp) fun H3 h3 => ?_⟩)⟩
  refine ⟨fun kb H' => ∃ kv, n.advance = n.adv (kv - n.commit).toNat kv ∧ kv ≤ n.fin ∧ HL.Holds (blk kb (.cells #[.int .i64 kv] 3 (0, 0)) :: nodB A q c d size s bs n :: ro A :: cs) H', fun kb H' => (kvOf H' kb - n.commit).toNat, ⟨n.fin, rfl, Int.le_refl _, h3⟩, ?_⟩
  clear h1 h2 h3 o ms e
  rintro kb H4 ⟨kv, ea, hv, h4⟩
  obtain ⟨o, ms, e, h5⟩ := nodB_open.1 h4.swap
  have ck : cellH H4 ⟨kb, 0, none⟩ = some (.int .i64 kv) := h4.cell 0 rfl rfl
  have M4 := kvOf_eq ck
  refine ⟨kv, ck, _, h5.cell 0 rfl rfl, br_intro (fun w => ?_) (fun w => ?_)⟩
  · have w : kv > n.commit := of_decide_eq_true w
    have st := adv_step w
    refine ⟨kv, ck, _, h5.cell 0 rfl rfl, ptrm_intro rfl (at10n_spec (i := 1) h4 rfl (by omega) ⟨_, rfl, HL.Sub.refl _, term10_spec (i := 1) h5 rfl ⟨_, rfl, HL.Sub.refl _, br_intro (fun y => majA_spec h4.swap ck hn.ps ⟨_, rfl, HL.Sub.refl _, br_intro (fun z => ?_) (fun z => ?_)⟩) (fun y => ?_)⟩⟩)⟩
    · have y : atT n.st kv = n.st.term := by simpa using y
      rw [if_pos ⟨y, z⟩] at st
      refine ⟨kv, ck, h5.store 0 rfl (by simp) fun H8 h8 => kk H8 ?_⟩
      rw [ea, st]
      have h9 : HL.Holds (nodB A q c d size s bs { n with commit := kv } :: blk kb (.cells #[.int .i64 kv] 3 (0, 0)) :: ro A :: cs) H8 := nodB_open.2 ⟨o, ms, e, h8⟩
      exact h9.swap.tail
    all_goals
      have hcond : ¬ (atT n.st kv = n.st.term ∧ maj n.ps (fun p => decide (p.mat ≥ kv)) = true) := by
        rintro ⟨u1, u2⟩
        first
        | (rw [u2] at z; cases z)
        | (rw [u1] at y; simp at y)
      rw [if_neg hcond] at st
      refine ⟨kv, ck, h4.new fun q4 H9 h9 => h9.store 0 rfl (by simp) fun H10 h10 => ⟨kv, h10.cell 0 rfl rfl, h10.store 0 rfl (by simp) fun H11 h11 => ?_⟩⟩
      rw [wrap64_id (n := kv - 1) (by omega) (by omega)] at h11
      have h12 : HL.Holds (blk q4 (.cells #[.int .i64 (kv - 1)] 3 (0, 0)) :: blk kb (.cells #[.int .i64 kv] 3 (0, 0)) :: nodB A q c d size s bs n :: ro A :: cs) H11 := h11
      have M11 := kvOf_eq (h12.cell 0 rfl rfl)
      exact ⟨rfl, ⟨kv - 1, by rw [ea, st], by omega, h12.swap.tail⟩, by dsimp only; rw [M4, M11]; omega⟩
  · have w : ¬ kv > n.commit := of_decide_eq_false w
    have e0 : (kv - n.commit).toNat = 0 := by omega
    rw [e0] at ea
    have ea : n.advance = n := ea
    refine kk H4 ?_
    rw [ea]; exact h4.tail
def upTo (g : Pr → Pr) (ps : List Pr) (i : Nat) : List Pr := (ps.take i).map g ++ ps.drop i
theorem upTo_all {g : Pr → Pr} {ps : List Pr} {i : Nat} (h : ps.length ≤ i) : upTo g ps i = ps.map g := by
  unfold upTo; rw [List.take_of_length_le h, List.drop_eq_nil_of_le h, List.append_nil]
theorem upTo_at {g : Pr → Pr} {ps : List Pr} {i : Nat} {p : Pr} (h : ps[i]? = some p) : (upTo g ps i)[i]? = some p := by
  have hi : i < ps.length := (List.getElem?_eq_some_iff.1 h).1
  unfold upTo
  rw [List.getElem?_append_right (by rw [List.length_map, List.length_take]; omega), List.length_map, List.length_take, List.getElem?_drop]
  rw [Nat.min_eq_left (by omega), Nat.sub_self]; exact h
theorem upTo_set {g : Pr → Pr} {ps : List Pr} {i : Nat} {p : Pr} (h : ps[i]? = some p) : (upTo g ps i).set i (g p) = upTo g ps (i + 1) := by
  have hi : i < ps.length := (List.getElem?_eq_some_iff.1 h).1
  have hp : ps[i] = p := (List.getElem?_eq_some_iff.1 h).2
  unfold upTo
  rw [List.set_append_right _ _ (by rw [List.length_map, List.length_take]; omega), List.length_map, List.length_take, Nat.min_eq_left (by omega), Nat.sub_self, List.drop_eq_getElem_cons hi, List.set_cons_zero, List.take_succ_eq_append_getElem hi, List.map_append, hp]
  simp
theorem upTo_len (g : Pr → Pr) (ps : List Pr) (i : Nat) : (upTo g ps i).length = ps.length := by
  unfold upTo; rw [List.length_append, List.length_map, List.length_take, List.length_drop]; omega
theorem lead10_spec {now : Int} (h : HL.Holds (nodB A q c d size s bs n :: ro A :: cs) H) (hn : NdOk n) (ho : n.out.length ≤ 98000) (hl : n.st.l.length ≤ 99000)
    (kk : ∀ A' H', HL.Sub A A' → HL.Holds (nodB A' q c d size s bs (n.lead size now) :: ro A' :: cs) H' → K (.tuple #[]) H') : FnH Tryz.prog 81 #[.pointer (some ⟨q, 0, none⟩), .int .i64 now] H K := by
  refine raft_Node_lead_fn q 0 now ?_
  unfold raft_Node_lead_vc
  obtain ⟨o, ms, e, h1⟩ := nodB_open.1 h
  have hL := (lgu_ok (i := 1) h1 rfl).1
  have hf : n.fin ≤ 1000000000 := hL.ok.last_le
  have hf0 : 0 ≤ n.fin := by
    show 0 ≤ (lastX n.st).1
    rw [hL.ok.good.last]; have := hL.ok.index.1; omega
  have hps := hn.ps
  have hbl : bs.length ≤ 6 := by rw [e.1]; exact hps
  have hsn := ptr_len h1 hbl
  have hbp := e.1
  refine ⟨_, h1.cell 0 rfl rfl, ptrm_intro rfl (last10_spec (i := 1) h1 rfl ⟨_, _, rfl, _, h1.cell 0 rfl rfl, h1.store 0 rfl (by simp) fun H2 h2 => ?_⟩)⟩
  have h2 : HL.Holds (nodL q c d size s bs { n with role := 2 } o ms ++ ro A :: cs) H2 := h2
  refine h2.store 0 rfl (by simp) fun H3 h3 => ?_
  have h3 : HL.Holds (nodL q c d size s bs { n with role := 2, known := n.id } o ms ++ ro A :: cs) H3 := h3
  rw [wrap64_id (n := (lastX n.st).1 + 1) (by show _ ≤ n.fin + 1; omega) (by show n.fin + 1 ≤ _; omega)]
  let g : Pr → Pr := fun p => { p with nxt := n.fin + 1, mat := 0 }
  refine ⟨s, h3.cell 0 rfl rfl, fun i H' => 0 ≤ i ∧ i ≤ s.n ∧ HL.Holds (nodL q c d size s bs { n with role := 2, known := n.id, ps := upTo g n.ps i.toNat } o ms ++ ro A :: cs) H', fun i _ => (s.n - i).toNat, ⟨Int.le_refl _, by omega, h3⟩, ?_⟩
  clear h1 h2 h3 h
  rintro i H4 ⟨i0, i1, h4⟩
  refine br_intro (fun w => ?_) (fun w => ?_)
  · have w := of_decide_eq_true w
    obtain ⟨pb, po, b, g1, g2, g3⟩ := ptr_at h4 hbl i0 w
    obtain ⟨p, hp⟩ : ∃ p, n.ps[i.toNat]? = some p := ⟨_, List.getElem?_eq_getElem (by omega)⟩
    have hat := nodL_at (cs := ro A :: cs) (q := q) (c := c) (d := d) (size := size) (s := s) (o := o) (ms := ms) (n := { n with role := 2, known := n.id, ps := upTo g n.ps i.toNat }) g2 (upTo_at hp)
    rw [wrap64_id (n := i + 1) (by omega) (by omega)]
    refine ⟨pb, po, g1, i0, w, _, g3, ptrm_intro rfl (h4.store (i.toNat + 4) hat (by simp) fun H5 h5 => ?_)⟩
    have hs1 := nodL_set (cs := ro A :: cs) (q := q) (c := c) (d := d) (size := size) (s := s) (o := o) (ms := ms) (n := { n with role := 2, known := n.id, ps := upTo g n.ps i.toNat }) (p' := { p with nxt := n.fin + 1 }) g2 (upTo_at hp)
    have h5 : HL.Holds (nodL q c d size s bs { n with role := 2, known := n.id, ps := (upTo g n.ps i.toNat).set i.toNat { p with nxt := n.fin + 1 } } o ms ++ ro A :: cs) H5 := by
      rw [← hs1]; exact h5
    have hp2 : ((upTo g n.ps i.toNat).set i.toNat { p with nxt := n.fin + 1 })[i.toNat]? = some { p with nxt := n.fin + 1 } := by
      have hi : i.toNat < (upTo g n.ps i.toNat).length := by rw [upTo_len]; omega
      rw [List.getElem?_set_self hi]
    have hat2 := nodL_at (cs := ro A :: cs) (q := q) (c := c) (d := d) (size := size) (s := s) (o := o) (ms := ms) (n := { n with role := 2, known := n.id, ps := (upTo g n.ps i.toNat).set i.toNat { p with nxt := n.fin + 1 } }) g2 hp2
    refine ptrm_intro rfl (h5.store (i.toNat + 4) hat2 (by simp) fun H6 h6 => ⟨rfl, ⟨by omega, by omega, ?_⟩, by dsimp only; omega⟩)
    have hs2 := nodL_set (cs := ro A :: cs) (q := q) (c := c) (d := d) (size := size) (s := s) (o := o) (ms := ms) (n := { n with role := 2, known := n.id, ps := (upTo g n.ps i.toNat).set i.toNat { p with nxt := n.fin + 1 } }) (p' := g p) g2 hp2
    have e1 : (i + 1).toNat = i.toNat + 1 := by omega
    rw [e1, ← upTo_set hp]
    rw [List.set_set] at hs2
    rw [← hs2]; exact h6
  · have w := of_decide_eq_false w
    rw [upTo_all (by omega)] at h4
    have h5 : HL.Holds (nodB A q c d size s bs n.lead1 :: ro A :: cs) H4 := nodB_open.2 ⟨o, ms, ⟨by rw [hbp]; show _ = (n.ps.map _).length; rw [List.length_map], e.2⟩, h4⟩
    have hn1 : NdOk n.lead1 := ⟨hn.wait, hn.draw, by show (n.ps.map _).length ≤ 6; rw [List.length_map]; exact hps, fun p hp => by
      obtain ⟨p', -, rfl⟩ := List.mem_map.1 hp
      exact ⟨by show 0 ≤ n.fin + 1; omega, by show n.fin + 1 ≤ _; omega, Int.le_refl _, by show (0 : Int) ≤ _; decide⟩, hn.commit⟩
    refine put10n_spec (data := ⟨#[]⟩) h5 hl fun H7 h7 => ⟨_, _, rfl, br_intro (fun y => ?_) (fun y => ?_)⟩
    · have y : (n.lead1.put size ⟨#[]⟩).2.1 ≠ 0 := by simpa using y
      refine follow10_spec h7 fun H8 h8 => ⟨rfl, kk A H8 (HL.Sub.refl _) ?_⟩
      unfold Nd.lead; rw [if_pos y]; exact h8
    · have y : (n.lead1.put size ⟨#[]⟩).2.1 = 0 := by simpa using y
      have hn2 : NdOk (n.lead1.put size ⟨#[]⟩).2.2 := hn1.of rfl rfl rfl rfl
      have hL7 := nodB_lg (i := 0) h7 rfl
      refine advance10_spec h7 hn2 fun H9 h9 => ⟨rfl, beats10_spec h9 (hn2.advance hL7.ok.last_le) ?_ fun A' H10 sA h10 => ⟨rfl, kk A' H10 sA ?_⟩⟩
      · have : ((n.lead1.put size ⟨#[]⟩).2.2.advance).out = n.out := (adv_same _ _ _).2.2.2.2.1
        rw [this]; omega
      · unfold Nd.lead; rw [if_neg (by simpa using y)]; exact h10
end
end Go.Proofs.YthldclmeojkboaaGreatDoor
namespace Go.Proofs.YthldclmeojkboaaGreatDoor
open Go Go.HL
set_option maxHeartbeats 1600000
set_option maxRecDepth 10000
theorem turnS_same (size : Int) (st : RS) (t v : Int) : (turnS size st t v).2.l = st.l ∧ (turnS size st t v).2.index = st.index ∧ (turnS size st t v).2.snapped = st.snapped ∧ (turnS size st t v).2.data = st.data := by
  unfold turnS
  (repeat' split) <;> exact ⟨rfl, rfl, rfl, rfl⟩
theorem NdOk.cand {n : Nd} (h : NdOk n) : NdOk n.cand := ⟨h.wait, h.draw, by show (n.ps.map _).length ≤ 6; rw [List.length_map]; exact h.ps, fun p hp => by
  obtain ⟨p', hp', rfl⟩ := List.mem_map.1 hp
  exact h.nxt p' hp', h.commit⟩
def Nd.stood (size : Int) (n : Nd) (now : Int) : Int × Nd := (n.anew now).turn size (n.st.term + 1) n.id
theorem stand_eq (size : Int) (n : Nd) (now : Int) : n.stand size now = if (n.stood size now).1 ≠ 0 then (n.stood size now).2 else if maj (n.stood size now).2.cand.ps (·.vote) = true then (n.stood size now).2.cand.lead size now else (n.stood size now).2.cand.asks := rfl
section
variable {cs : List Chunk} {H A : Heap} {K : Value → Heap → Prop} {q c d : Nat} {size : Int} {s : Sl} {bs : List Nat} {n : Nd}
theorem turnL10_spec {t v : Int} (h : HL.Holds (nodB A q c d size s bs n :: cs) H) (k : ∀ H', HL.Holds (nodB A q c d size s bs (n.turn size t v).2 :: cs) H' → K (.int .i64 (n.turn size t v).1) H') : FnH Tryz.prog 45 #[.pointer (some ⟨c, 0, none⟩), .int .i64 t, .int .i64 v] H K := by
  obtain ⟨o, ms, e, h1⟩ := nodB_open.1 h
  exact turn10_spec (h1.pull 1 rfl) fun H3 h3 => k H3 (nodB_open.2 ⟨o, ms, e, h3.swap⟩)
theorem snapL10_spec {i t : Int} {data : ByteArray} (h : HL.Holds (nodB A q c d size s bs n :: cs) H) (k : ∀ H', HL.Holds (nodB A q c d size s bs { n with st := (snapS size n.st i t data).2 } :: cs) H' → K (.int .i64 (snapS size n.st i t data).1) H') : FnH Tryz.prog 92 #[.pointer (some ⟨c, 0, none⟩), .int .i64 i, .int .i64 t, .string data] H K := by
  obtain ⟨o, ms, e, h1⟩ := nodB_open.1 h
  exact snap10_spec (h1.pull 1 rfl) fun H3 h3 => k H3 (nodB_open.2 ⟨o, ms, e, h3.swap⟩)
theorem putL10_spec {after : Int} {sl : Sl} {l : List En} (h : HL.Holds (nodB A q c d size s bs n :: ro A :: cs) H) (hx : Recs eE A sl l) (hl : l.length ≤ 1000) (hl2 : n.st.l.length + l.length ≤ 100000)
    (k : ∀ H', HL.Holds (nodB A q c d size s bs { n with st := (putS size n.st after l).2 } :: ro A :: cs) H' → K (.int .i64 (putS size n.st after l).1) H') : FnH Tryz.prog 91 #[.pointer (some ⟨c, 0, none⟩), .int .i64 after, .slice sl.p sl.n sl.c] H K := by
  obtain ⟨o, ms, e, h1⟩ := nodB_open.1 h
  have g : Gives (ro A) fun B => Recs eE B sl l := ⟨ro_mono A, fun B hB => Recs.mono _ _ hB hx⟩
  have h2 : HL.Holds (ro A :: (nodL q c d size s bs n o ms ++ cs)) H := h1.perm List.perm_middle
  refine put10_spec (i := 0) (c0 := ro A) (h2.pull 2 rfl) g rfl hl hl2 fun H3 h3 => k H3 ?_
  have h4 : HL.Holds (ro A :: (nodL q c d size s bs { n with st := (putS size n.st after l).2 } o ms ++ cs)) H3 := h3.down 2
  exact nodB_open.2 ⟨o, ms, e, h4.perm List.perm_middle.symm⟩
theorem stand10_spec {now : Int} (h : HL.Holds (nodB A q c d size s bs n :: ro A :: cs) H) (hn : NdOk n) (ho : n.out.length ≤ 97000) (hl : n.st.l.length ≤ 99000)
    (kk : ∀ A' H', HL.Sub A A' → HL.Holds (nodB A' q c d size s bs (n.stand size now) :: ro A' :: cs) H' → K (.tuple #[]) H') : FnH Tryz.prog 39 #[.pointer (some ⟨q, 0, none⟩), .int .i64 now] H K := by
  refine raft_Node_stand_fn q 0 now ?_
  unfold raft_Node_stand_vc
  refine anew10_spec h hn.wait.1 fun H1 h1 => ⟨rfl, ?_⟩
  obtain ⟨o, ms, e, h2⟩ := nodB_open.1 h1
  have hL := (lgu_ok (i := 1) h2 rfl).1
  have ht : 0 ≤ n.st.term ∧ n.st.term ≤ 1000000000 := hL.ok.term
  refine ⟨_, h2.cell 0 rfl rfl, _, h2.cell 0 rfl rfl, ptrm_intro rfl ⟨_, h2.cell 0 rfl rfl, term10_spec (i := 1) h2 rfl ⟨_, rfl, HL.Sub.refl _, ?_⟩⟩⟩
  rw [wrap64_id (n := (n.anew now).st.term + 1) (by show _ ≤ n.st.term + 1; omega) (by show n.st.term + 1 ≤ _; omega)]
  refine turnL10_spec h1 fun H3 h3 => ⟨_, rfl, br_intro (fun y => ?_) (fun y => ?_)⟩
  · have y : (n.stood size now).1 ≠ 0 := bne_iff_ne.1 y
    refine kk A H3 (HL.Sub.refl _) ?_
    rw [stand_eq, if_pos y]; exact h3
  have y : ¬ (n.stood size now).1 ≠ 0 := fun z => z (bne_eq_false_iff_eq.1 y)
  have hst : (n.stood size now).2.st.l = n.st.l := (turnS_same size n.st (n.st.term + 1) n.id).1
  have hnm : NdOk (n.stood size now).2 := hn.of rfl rfl rfl rfl
  have hom : (n.stood size now).2.out = n.out := rfl
  have h3 : HL.Holds (nodB A q c d size s bs (n.stood size now).2 :: ro A :: cs) H3 := h3
  have em := stand_eq size n now
  rw [if_neg y] at em
  rw [em] at kk
  revert h3 hst hnm hom kk
  generalize (n.stood size now).2 = m
  intro kk hst hnm hom h3
  clear h1 h2 e o ms em y hL ht h
  obtain ⟨o, ms, e, h1⟩ := nodB_open.1 h3
  have hps := hnm.ps
  have hbl : bs.length ≤ 6 := by rw [e.1]; exact hps
  have hsn := ptr_len h1 hbl
  have hbp := e.1
  refine h1.store 0 rfl (by simp) fun H4 h4 => ?_
  have h4 : HL.Holds (nodL q c d size s bs { m with role := 1 } o ms ++ ro A :: cs) H4 := h4
  refine h4.store 0 rfl (by simp) fun H5 h5 => ?_
  have h5 : HL.Holds (nodL q c d size s bs { m with role := 1, known := 0 } o ms ++ ro A :: cs) H5 := h5
  refine ⟨s, h5.cell 0 rfl rfl, fun i H' => 0 ≤ i ∧ i ≤ s.n ∧ HL.Holds (nodL q c d size s bs { m with role := 1, known := 0, ps := upTo nvote m.ps i.toNat } o ms ++ ro A :: cs) H', fun i _ => (s.n - i).toNat, ⟨Int.le_refl _, by omega, h5⟩, ?_⟩
  clear h1 h3 h4 h5
  rintro i H6 ⟨i0, i1, h4⟩
  refine br_intro (fun w => ?_) (fun w => ?_)
  · have w := of_decide_eq_true w
    obtain ⟨pb, po, b, g1, g2, g3⟩ := ptr_at h4 hbl i0 w
    obtain ⟨p, hp⟩ : ∃ p, m.ps[i.toNat]? = some p := ⟨_, List.getElem?_eq_getElem (by omega)⟩
    have hat := nodL_at (cs := ro A :: cs) (q := q) (c := c) (d := d) (size := size) (s := s) (o := o) (ms := ms) (n := { m with role := 1, known := 0, ps := upTo nvote m.ps i.toNat }) g2 (upTo_at hp)
    rw [wrap64_id (n := i + 1) (by omega) (by omega)]
    refine ⟨pb, po, g1, i0, w, _, g3, ptrm_intro rfl (h4.store (i.toNat + 4) hat (by simp) fun H7 h7 => ⟨rfl, ⟨by omega, by omega, ?_⟩, by dsimp only; omega⟩)⟩
    have hs1 := nodL_set (cs := ro A :: cs) (q := q) (c := c) (d := d) (size := size) (s := s) (o := o) (ms := ms) (n := { m with role := 1, known := 0, ps := upTo nvote m.ps i.toNat }) (p' := nvote p) g2 (upTo_at hp)
    have e1 : (i + 1).toNat = i.toNat + 1 := by omega
    rw [e1, ← upTo_set hp]
    rw [← hs1]; exact h7
  · have w := of_decide_eq_false w
    rw [upTo_all (by omega)] at h4
    have hnc := hnm.cand
    have h5 : HL.Holds (nodB A q c d size s bs m.cand :: ro A :: cs) H6 := nodB_open.2 ⟨o, ms, ⟨by rw [hbp]; show _ = (m.ps.map _).length; rw [List.length_map], e.2⟩, h4⟩
    refine majV_spec h5 hnc.ps ⟨_, rfl, br_intro (fun z => ?_) (fun z => ?_)⟩
    · rw [if_pos z] at kk
      exact lead10_spec h5 hnc (by show m.out.length ≤ _; rw [hom]; omega) (by show m.st.l.length ≤ _; rw [hst]; omega) fun A' H9 sA h9 => ⟨rfl, kk A' H9 sA h9⟩
    · rw [if_neg (by rw [z]; decide)] at kk
      refine ⟨_, h4.cell 0 rfl rfl, ptrm_intro rfl (last10_spec (i := 1) h4 rfl ⟨_, _, rfl, s, h4.cell 0 rfl rfl, ?_⟩)⟩
      have hcl : m.cand.ps.length = bs.length := by rw [hbp]; show (m.ps.map _).length = _; rw [List.length_map]
      refine ⟨fun i H' => 0 ≤ i ∧ i ≤ s.n ∧ HL.Holds (nodB A q c d size s bs ((m.cand.ps.take i.toNat).foldl (fun x p => x.tell (askM m.cand p)) m.cand) :: ro A :: cs) H', fun i _ => (s.n - i).toNat, ⟨Int.le_refl _, by omega, h5⟩, ?_⟩
      clear h4 h5
      rintro j H8 ⟨j0, j1, h8⟩
      obtain ⟨o, ms, e, h9⟩ := nodB_open.1 h8
      obtain ⟨a1, a2, a3, a4, a5, a6⟩ := tells_ps m.cand (fun _ p => askM m.cand p) (m.cand.ps.take j.toNat) m.cand
      refine br_intro (fun w => ?_) (fun w => ?_)
      · have w := of_decide_eq_true w
        obtain ⟨pb, po, b, g1, g2, g3⟩ := ptr_at h9 hbl j0 w
        obtain ⟨p, hp⟩ : ∃ p, m.cand.ps[j.toNat]? = some p := ⟨_, List.getElem?_eq_getElem (by omega)⟩
        have hat := nodL_at (cs := ro A :: cs) (q := q) (c := c) (d := d) (size := size) (s := s) (o := o) (ms := ms) (n := ((m.cand.ps.take j.toNat).foldl (fun x p => x.tell (askM m.cand p)) m.cand)) g2 (by rw [a1]; exact hp)
        have htl : (m.cand.ps.take j.toNat).length ≤ 6 := by rw [List.length_take]; omega
        rw [wrap64_id (n := j + 1) (by omega) (by omega)]
        refine ⟨pb, po, g1, j0, w, _, g3, ptrm_intro rfl ⟨_, h9.cell (j.toNat + 4) hat rfl, ?_⟩⟩
        refine tell10_spec (x := askM m.cand p) (sl := ⟨none, 0, 0⟩) h8 (Recs.nil _) (by rw [a6]; show m.out.length + _ ≤ _; rw [hom]; omega) fun H10 h10 => ⟨rfl, rfl, ⟨by omega, by omega, ?_⟩, by dsimp only; omega⟩
        rw [take_step j0 hp, List.foldl_append]; exact h10
      · have w := of_decide_eq_false w
        have hall : (m.cand.ps.take j.toNat) = m.cand.ps := List.take_of_length_le (by omega)
        rw [hall] at h8
        exact kk A H8 (HL.Sub.refl _) h8
theorem tick10_spec {now draw : Int} (h : HL.Holds (nodB A q c d size s bs n :: ro A :: cs) H) (hn : NdOk n) (hd : i64B draw) (ho : n.out.length ≤ 97000) (hl : n.st.l.length ≤ 99000)
    (kk : ∀ A' (o : Sl) (ms : List Mo) H', HL.Sub A A' → ms.map Prod.fst = (n.tick size now draw).out → MsIn A' ms → HL.Holds (own 33 21 o (ms.flatMap eM) :: nodB A' q c d size s bs (n.tick size now draw).said :: ro A' :: cs) H' → K (.slice o.p o.n o.c) H') : FnH Tryz.prog 11 #[.pointer (some ⟨q, 0, none⟩), .int .i64 now, .int .i64 draw] H K := by
  refine raft_Node_Tick_fn q 0 now draw ?_
  unfold raft_Node_Tick_vc
  obtain ⟨o, ms, e, h1⟩ := nodB_open.1 h
  have hd1 := hd.1
  have hd2 := hd.2
  have said : ∀ {m : Nd} {A' H' : Heap}, HL.Sub A A' → m = n.tick size now draw → HL.Holds (nodB A' q c d size s bs m :: ro A' :: cs) H' → FnH Tryz.prog 37 #[.pointer (some ⟨q, 0, none⟩)] H' fun r H'' => ∃ l : Sl, r = .slice l.p l.n l.c ∧ K (.slice l.p l.n l.c) H'' := fun {m A' H'} sA em h' => by
    subst em
    exact said10_spec h' fun o ms H'' e1 e2 h'' => ⟨o, rfl, kk A' o ms H'' sA e1 e2 h''⟩
  refine br_intro (fun w => ?_) (fun w => ?_)
  all_goals
    first
    | (have w := of_decide_eq_true w
       rw [wrap64_id (n := draw + 1) (by omega) (by omega), wrap64_id (n := 0 - (draw + 1)) (by omega) (by omega)]
       have ed : dist draw = 0 - (draw + 1) := by unfold dist; rw [if_pos w]; omega)
    | (have w := of_decide_eq_false w
       have ed : dist draw = draw := by unfold dist; rw [if_neg w])
    refine h1.store 0 rfl (by simp) fun H2 h2 => ?_
    rw [← ed] at h2
    have h2 : HL.Holds (nodL q c d size s bs { n with draw := dist draw } o ms ++ ro A :: cs) H2 := h2
    have h3 : HL.Holds (nodB A q c d size s bs { n with draw := dist draw } :: ro A :: cs) H2 := nodB_open.2 ⟨o, ms, e, h2⟩
    have hn2 : NdOk { n with draw := dist draw } := ⟨hn.wait, by show 0 ≤ dist draw ∧ dist draw ≤ _; rw [ed]; omega, hn.ps, hn.nxt, hn.commit⟩
    refine ⟨_, h2.cell 0 rfl rfl, br_intro (fun y => ⟨_, h2.cell 0 rfl rfl, br_intro (fun z => ?_) (fun z => ?_)⟩) (fun y => ⟨_, h2.cell 0 rfl rfl, br_intro (fun z => ?_) (fun z => ?_)⟩)⟩
    · have y : n.role = 2 := by simpa using y
      have z : now ≥ n.beat := of_decide_eq_true z
      refine beats10_spec h3 hn2 (by show n.out.length ≤ _; omega) fun A' H4 sA h4 => ⟨rfl, said sA ?_ h4⟩
      unfold Nd.tick Nd.tick1; rw [if_pos y, if_pos z]
    · have y : n.role = 2 := by simpa using y
      have z : ¬ now ≥ n.beat := of_decide_eq_false z
      refine said (HL.Sub.refl _) ?_ h3
      unfold Nd.tick Nd.tick1; rw [if_pos y, if_neg z]
    · have y : ¬ n.role = 2 := by simpa using y
      have z : n.deadline = -1 := by simpa using z
      refine anew10_spec h3 hn.wait.1 fun H5 h5 => ⟨rfl, ?_⟩
      obtain ⟨o', ms', e', h6⟩ := nodB_open.1 h5
      have et : n.tick size now draw = if now ≥ (({ n with draw := dist draw } : Nd).anew now).deadline then (({ n with draw := dist draw } : Nd).anew now).stand size now else (({ n with draw := dist draw } : Nd).anew now) := by
        unfold Nd.tick Nd.tick1; rw [if_neg y, if_pos z]
      refine ⟨_, h6.cell 0 rfl rfl, br_intro (fun u => ?_) (fun u => ?_)⟩
      · rw [if_pos (of_decide_eq_true u)] at et
        exact stand10_spec h5 (hn2.of rfl rfl rfl rfl) (by show n.out.length ≤ _; omega) hl fun A' H7 sA h7 => ⟨rfl, said sA et.symm h7⟩
      · rw [if_neg (of_decide_eq_false u)] at et
        exact said (HL.Sub.refl _) et.symm h5
    · have y : ¬ n.role = 2 := by simpa using y
      have z : ¬ n.deadline = -1 := by simpa using z
      have et : n.tick size now draw = if now ≥ n.deadline then (({ n with draw := dist draw } : Nd)).stand size now else (({ n with draw := dist draw } : Nd)) := by
        unfold Nd.tick Nd.tick1; rw [if_neg y, if_neg z]
      refine ⟨_, h2.cell 0 rfl rfl, br_intro (fun u => ?_) (fun u => ?_)⟩
      · rw [if_pos (of_decide_eq_true u)] at et
        exact stand10_spec h3 hn2 (by show n.out.length ≤ _; omega) hl fun A' H7 sA h7 => ⟨rfl, said sA et.symm h7⟩
      · rw [if_neg (of_decide_eq_false u)] at et
        exact said (HL.Sub.refl _) et.symm h3
end
end Go.Proofs.YthldclmeojkboaaGreatDoor
namespace Go.Proofs.YthldclmeojkboaaGreatDoor
open Go Go.HL
set_option maxHeartbeats 1600000
set_option maxRecDepth 10000
structure Mw where
  kind : Int
  frm : Int
  to : Int
  id : Int
  part : Int
  epoch : Int
  offset : Int
  last : Int
  start : Int
  high : Int
  term : Int
  index : Int
  pid : Int
  pep : Int
  seq : Int
  err : Int
  name : ByteArray
  text : ByteArray
  bat : Sl
  ent : Sl
  ints : Sl
abbrev Mw.arr (m : Mw) : Array Value := #[.int .i64 m.kind, .int .i64 m.frm, .int .i64 m.to, .int .i64 m.id, .int .i64 m.part, .int .i64 m.epoch, .int .i64 m.offset, .int .i64 m.last, .int .i64 m.start, .int .i64 m.high, .int .i64 m.term, .int .i64 m.index, .int .i64 m.pid, .int .i64 m.pep, .int .i64 m.seq, .int .i64 m.err, .string m.name, .string m.text, .slice m.bat.p m.bat.n m.bat.c, .slice m.ent.p m.ent.n m.ent.c, .slice m.ints.p m.ints.n m.ints.c]
abbrev Mw.val (m : Mw) : Value := .agg m.arr
def Mw.mg (m : Mw) (l : List En) : Mg := ⟨m.kind, m.frm, m.to, m.last, m.high, m.term, m.index, m.err, m.text, l⟩
structure MwOk (m : Mw) : Prop where
  kind : i64B m.kind
  frm : i64B m.frm
  last : i64B m.last
  high : i64B m.high
  term : i64B m.term
  index : i64B m.index
  err : i64B m.err
theorem modify_at {ps : List Pr} {k : Nat} {p : Pr} {f : Pr → Pr} (h : ps[k]? = some p) : ps.modify k f = ps.set k (f p) := by
  apply List.ext_getElem?
  intro j
  rw [List.getElem?_modify, List.getElem?_set]
  have hk : k < ps.length := (List.getElem?_eq_some_iff.1 h).1
  by_cases e : k = j
  · subst e
    rw [h]; simp [hk]
  · simp [e]
section
variable {cs : List Chunk} {H A : Heap} {K : Value → Heap → Prop} {q c d : Nat} {size : Int} {s : Sl} {bs : List Nat} {n : Nd}
theorem voteAsk10_spec {now : Int} {m : Mw} {l : List En} {pb po : Nat} (h : HL.Holds (nodB A q c d size s bs n :: ro A :: cs) H) (hn : NdOk n) (ho : n.out.length ≤ 96000)
    (kk : ∀ H', HL.Holds (nodB A q c d size s bs (n.voteAsk size now (m.mg l)) :: ro A :: cs) H' → K (.tuple #[]) H') : FnH Tryz.prog 49 #[.pointer (some ⟨q, 0, none⟩), .int .i64 now, .pointer (some ⟨pb, po, none⟩), m.val] H K := by
  refine raft_Node_voteAsk_fn q 0 now pb po m.kind m.frm m.to m.id m.part m.epoch m.offset m.last m.start m.high m.term m.index m.pid m.pep m.seq m.err m.name m.text m.bat m.ent m.ints ?_
  unfold raft_Node_voteAsk_vc
  obtain ⟨o, ms, e, h1⟩ := nodB_open.1 h
  refine ⟨_, h1.cell 0 rfl rfl, ptrm_intro rfl (last10_spec (i := 1) h1 rfl ⟨_, _, rfl, _, h1.cell 0 rfl rfl, ptrm_intro rfl (vote10_spec (i := 1) h1 rfl ⟨_, rfl, ?_⟩)⟩)⟩
  refine ⟨fun ok H' => H' = H ∧ ok = n.voteOk (m.mg l), br_intro (fun w => ⟨_, h1.cell 0 rfl rfl, br_intro (fun r => br_intro (fun v => ⟨rfl, rfl, ?_⟩) (fun v => ⟨rfl, rfl, ?_⟩)) (fun r => ⟨rfl, rfl, ?_⟩)⟩) (fun w => br_intro (fun w2 => br_intro (fun w3 => ⟨_, h1.cell 0 rfl rfl, br_intro (fun r => br_intro (fun v => ⟨rfl, rfl, ?_⟩) (fun v => ⟨rfl, rfl, ?_⟩)) (fun r => ⟨rfl, rfl, ?_⟩)⟩) (fun w3 => ⟨rfl, rfl, ?_⟩)) (fun w2 => ⟨rfl, rfl, ?_⟩)), ?_⟩
  · exact (decide_eq_true ⟨.inl (of_decide_eq_true w), bne_iff_ne.1 r, .inl (beq_iff_eq.1 v)⟩).symm
  · have v : ¬ n.st.vote = 0 := by simpa using v
    by_cases z : n.st.vote = m.frm
    · rw [z, beq_self_eq_true]
      exact (decide_eq_true ⟨.inl (of_decide_eq_true w), bne_iff_ne.1 r, .inr z⟩).symm
    · rw [beq_eq_false_iff_ne.2 z]
      exact (decide_eq_false fun u => u.2.2.elim v z).symm
  · exact (decide_eq_false fun u => u.2.1 (bne_eq_false_iff_eq.1 r)).symm
  · exact (decide_eq_true ⟨.inr ⟨beq_iff_eq.1 w2, of_decide_eq_true w3⟩, bne_iff_ne.1 r, .inl (beq_iff_eq.1 v)⟩).symm
  · have v : ¬ n.st.vote = 0 := by simpa using v
    by_cases z : n.st.vote = m.frm
    · rw [z, beq_self_eq_true]
      exact (decide_eq_true ⟨.inr ⟨beq_iff_eq.1 w2, of_decide_eq_true w3⟩, bne_iff_ne.1 r, .inr z⟩).symm
    · rw [beq_eq_false_iff_ne.2 z]
      exact (decide_eq_false fun u => u.2.2.elim v z).symm
  · exact (decide_eq_false fun u => u.2.1 (bne_eq_false_iff_eq.1 r)).symm
  · exact (decide_eq_false fun u => u.1.elim (of_decide_eq_false w) (fun z => of_decide_eq_false w3 z.2)).symm
  · exact (decide_eq_false fun u => u.1.elim (of_decide_eq_false w) (fun z => beq_eq_false_iff_ne.1 w2 z.1)).symm
  rintro ok H3 ⟨rfl, eok⟩
  refine br_intro (fun y => ?_) (fun y => ?_)
  · have y : n.voteOk (m.mg l) = false := by rw [← eok]; simpa using y
    refine tell10_spec (x := tellM 2 m.frm 0 19) (sl := ⟨none, 0, 0⟩) h (Recs.nil _) (by omega) fun H4 h4 => ⟨rfl, kk H4 ?_⟩
    unfold Nd.voteAsk; rw [if_pos y]; exact h4
  · have y : ¬ n.voteOk (m.mg l) = false := by rw [← eok]; simpa using y
    have ev : n.voteAsk size now (m.mg l) = if (n.turn size n.st.term m.frm).1 ≠ 0 then (n.turn size n.st.term m.frm).2.tell (tellM 2 m.frm 0 19) else ((n.turn size n.st.term m.frm).2.tell (tellM 2 m.frm 0 0)).anew now := by
      unfold Nd.voteAsk; rw [if_neg y]; rfl
    refine ⟨_, h1.cell 0 rfl rfl, _, h1.cell 0 rfl rfl, ptrm_intro rfl (term10_spec (i := 1) h1 rfl ⟨_, rfl, HL.Sub.refl _, turnL10_spec h fun H6 h6 => ⟨_, rfl, br_intro (fun z => ?_) (fun z => ?_)⟩⟩)⟩
    · rw [if_pos (bne_iff_ne.1 z)] at ev
      refine tell10_spec (x := tellM 2 m.frm 0 19) (sl := ⟨none, 0, 0⟩) h6 (Recs.nil _) (by show n.out.length ≤ _; omega) fun H4 h4 => ⟨rfl, kk H4 ?_⟩
      rw [ev]; exact h4
    · rw [if_neg (fun u => u (bne_eq_false_iff_eq.1 z))] at ev
      refine tell10_spec (x := tellM 2 m.frm 0 0) (sl := ⟨none, 0, 0⟩) h6 (Recs.nil _) (by show n.out.length ≤ _; omega) fun H4 h4 => ⟨rfl, anew10_spec h4 hn.wait.1 fun H5 h5 => ⟨rfl, kk H5 ?_⟩⟩
      rw [ev]; exact h5
theorem setP_hold {k b : Nat} {p p' : Pr} {o : Sl} {ms : List Mo} {H' : Heap} (hb : bs[k]? = some b) (hp : n.ps[k]? = some p) {f : Pr → Pr} (hf : f p = p') (h : HL.Holds ((nodL q c d size s bs n o ms ++ cs).set (k + 4) (blk b (.cells (prA p') 109 (0, 0)))) H') :
    HL.Holds (nodL q c d size s bs (n.setP k f) o ms ++ cs) H' := by
  have e := nodL_set (cs := cs) (q := q) (c := c) (d := d) (size := size) (s := s) (o := o) (ms := ms) (n := n) (p' := p') hb hp
  rw [e] at h
  have e2 : n.setP k f = { n with ps := n.ps.set k p' } := by unfold Nd.setP; rw [modify_at hp, hf]
  rw [e2]; exact h
theorem setP_at {k : Nat} {p : Pr} {f : Pr → Pr} (hp : n.ps[k]? = some p) : (n.setP k f).ps[k]? = some (f p) := by
  have hk : k < n.ps.length := (List.getElem?_eq_some_iff.1 hp).1
  show (n.ps.modify k f)[k]? = _
  rw [modify_at hp, List.getElem?_set_self hk]
theorem setP_len {k : Nat} {f : Pr → Pr} : (n.setP k f).ps.length = n.ps.length := by
  show (n.ps.modify k f).length = _
  rw [List.length_modify]
theorem NdOk.setP {n : Nd} (h : NdOk n) {k : Nat} {p : Pr} {f : Pr → Pr} (hp : n.ps[k]? = some p) (hf : 0 ≤ (f p).nxt ∧ (f p).nxt ≤ 1000000001 ∧ 0 ≤ (f p).mat ∧ (f p).mat ≤ 1000000000) : NdOk (n.setP k f) :=
  ⟨h.wait, h.draw, by rw [setP_len]; exact h.ps, fun x hx => by
    have hx : x ∈ n.ps.modify k f := hx
    rw [modify_at hp] at hx
    rcases List.mem_or_eq_of_mem_set hx with g | g
    · exact h.nxt x g
    · rw [g]; exact hf, h.commit⟩
theorem voteTell10_spec {now : Int} {m : Mw} {l : List En} {k b : Nat} {p : Pr} (h : HL.Holds (nodB A q c d size s bs n :: ro A :: cs) H) (hb : bs[k]? = some b) (hp : n.ps[k]? = some p) (hn : NdOk n) (ho : n.out.length ≤ 96000) (hl : n.st.l.length ≤ 99000)
    (kk : ∀ A' H', HL.Sub A A' → HL.Holds (nodB A' q c d size s bs (n.voteTell size now k (m.mg l)) :: ro A' :: cs) H' → K (.tuple #[]) H') : FnH Tryz.prog 50 #[.pointer (some ⟨q, 0, none⟩), .int .i64 now, .pointer (some ⟨b, 0, none⟩), m.val] H K := by
  refine raft_Node_voteTell_fn q 0 now b 0 m.kind m.frm m.to m.id m.part m.epoch m.offset m.last m.start m.high m.term m.index m.pid m.pep m.seq m.err m.name m.text m.bat m.ent m.ints ?_
  unfold raft_Node_voteTell_vc
  obtain ⟨o, ms, e, h1⟩ := nodB_open.1 h
  refine ⟨_, h1.cell 0 rfl rfl, br_intro (fun w => ?_) (fun w => br_intro (fun w2 => ?_) (fun w2 => ?_))⟩
  · refine kk A H (HL.Sub.refl _) ?_
    unfold Nd.voteTell; rw [if_pos (.inl (bne_iff_ne.1 w))]; exact h
  · refine kk A H (HL.Sub.refl _) ?_
    unfold Nd.voteTell; rw [if_pos (.inr (bne_iff_ne.1 w2))]; exact h
  · have w := bne_eq_false_iff_eq.1 w
    have w2 := bne_eq_false_iff_eq.1 w2
    have ev : n.voteTell size now k (m.mg l) = if maj (n.setP k fun p => { p with vote := true }).ps (·.vote) = true then (n.setP k fun p => { p with vote := true }).lead size now else (n.setP k fun p => { p with vote := true }) := by
      unfold Nd.voteTell; rw [if_neg (fun z => z.elim (fun u => u w) (fun u => u w2))]
    have at_ := nodL_at (cs := ro A :: cs) (q := q) (c := c) (d := d) (size := size) (s := s) (o := o) (ms := ms) hb hp
    refine h1.store (k + 4) at_ (by simp) fun H2 h2 => ?_
    have h3 : HL.Holds (nodL q c d size s bs (n.setP k fun p => { p with vote := true }) o ms ++ ro A :: cs) H2 := setP_hold hb hp (p' := { p with vote := true }) rfl h2
    have h4 : HL.Holds (nodB A q c d size s bs (n.setP k fun p => { p with vote := true }) :: ro A :: cs) H2 := nodB_open.2 ⟨o, ms, ⟨by rw [setP_len]; exact e.1, e.2⟩, h3⟩
    have hn2 : NdOk (n.setP k fun p => { p with vote := true }) := hn.setP hp (hn.nxt p (List.mem_of_getElem? hp))
    refine majV_spec h4 hn2.ps ⟨_, rfl, br_intro (fun z => ?_) (fun z => ?_)⟩
    · rw [if_pos z] at ev
      exact lead10_spec h4 hn2 (by show n.out.length ≤ _; omega) hl fun A' H5 sA h5 => ⟨rfl, kk A' H5 sA (by rw [ev]; exact h5)⟩
    · rw [if_neg (by rw [z]; decide)] at ev
      exact kk A H2 (HL.Sub.refl _) (by rw [ev]; exact h4)
theorem appendAsk10_spec {now : Int} {m : Mw} {l : List En} {pb po : Nat} (h : HL.Holds (nodB A q c d size s bs n :: ro A :: cs) H) (hm : MwOk m) (hx : Recs eE A m.ent l) (hxl : l.length ≤ 1000) (hn : NdOk n) (ho : n.out.length ≤ 96000) (hl : n.st.l.length + l.length ≤ 100000)
    (kk : ∀ H', HL.Holds (nodB A q c d size s bs (n.appendAsk size now (m.mg l)) :: ro A :: cs) H' → K (.tuple #[]) H') : FnH Tryz.prog 51 #[.pointer (some ⟨q, 0, none⟩), .int .i64 now, .pointer (some ⟨pb, po, none⟩), m.val] H K := by
  refine raft_Node_appendAsk_fn q 0 now pb po m.kind m.frm m.to m.id m.part m.epoch m.offset m.last m.start m.high m.term m.index m.pid m.pep m.seq m.err m.name m.text m.bat m.ent m.ints ?_
  unfold raft_Node_appendAsk_vc
  obtain ⟨o, ms, e, h1⟩ := nodB_open.1 h
  have hi := hm.index
  refine ⟨_, h1.cell 0 rfl rfl, br_intro (fun w => ?_) (fun w => ?_)⟩
  · refine kk H ?_
    unfold Nd.appendAsk; rw [if_pos (beq_iff_eq.1 w)]; exact h
  have w : ¬ n.role = 2 := beq_eq_false_iff_ne.1 w
  clear h1 e o ms
  have ev : n.appendAsk size now (m.mg l) = if ((n.follow m.frm).anew now).badAsk (m.mg l) = true then ((n.follow m.frm).anew now).tell (tellM 4 m.frm (maxI 0 (minI ((n.follow m.frm).anew now).fin (W (m.index - 1)))) 11)
      else if (putS size n.st m.index l).1 ≠ 0 then ({ (n.follow m.frm).anew now with st := (putS size n.st m.index l).2 } : Nd).tell (tellM 4 m.frm 0 (putS size n.st m.index l).1)
      else ({ (n.follow m.frm).anew now with st := (putS size n.st m.index l).2, commit := maxI n.commit (minI (W (m.index + l.length)) m.high) } : Nd).tell (tellM 4 m.frm (W (m.index + l.length)) 0) := by
    unfold Nd.appendAsk; rw [if_neg w]; rfl
  have hn1 : NdOk ((n.follow m.frm).anew now) := hn.of rfl rfl rfl rfl
  have hst : ((n.follow m.frm).anew now).st = n.st := rfl
  have hot : ((n.follow m.frm).anew now).out = n.out := rfl
  have hcm : ((n.follow m.frm).anew now).commit = n.commit := rfl
  refine follow10_spec h fun H1 h1 => ⟨rfl, anew10_spec h1 hn.wait.1 fun H2 h2 => ⟨rfl, ?_⟩⟩
  revert ev hn1 hst hot hcm h2
  generalize ((n.follow m.frm).anew now) = n1
  intro ev hn1 hst hot hcm h2
  obtain ⟨o, ms, e, h3⟩ := nodB_open.1 h2
  have hL := (lgu_ok (i := 1) h3 rfl).1
  have hxi := hL.ok.index
  have hf : n1.fin ≤ 1000000000 := hL.ok.last_le
  refine ⟨_, h3.cell 0 rfl rfl, ptrm_intro rfl (last10_spec (i := 1) h3 rfl ⟨_, _, rfl, ?_⟩)⟩
  refine ⟨fun b H' => H' = H2 ∧ b = n1.badAsk (m.mg l), br_intro (fun y => ⟨rfl, rfl, ?_⟩) (fun y => br_intro (fun z => ⟨rfl, rfl, ?_⟩) (fun z => ⟨_, h3.cell 0 rfl rfl, ptrm_intro rfl (first10_spec (i := 1) h3 rfl ⟨_, rfl, HL.Sub.refl _, ?_⟩)⟩)), ?_⟩
  · exact (decide_eq_true (.inl (of_decide_eq_true y))).symm
  · exact (decide_eq_true (.inr (.inl (of_decide_eq_true z)))).symm
  · rw [wrap64_id (n := n1.st.index + 1 - 1) (by omega) (by omega)]
    have e1 : n1.st.index + 1 - 1 = n1.st.index := by omega
    rw [e1]
    refine br_intro (fun u => at10n_spec (i := 0) h2 rfl hi.2 ⟨_, rfl, HL.Sub.refl _, rfl, rfl, ?_⟩) (fun u => ⟨rfl, rfl, ?_⟩)
    · by_cases t : atT n1.st m.index = m.last
      · rw [bne_eq_false_iff_eq.2 t]
        exact (decide_eq_false fun v => v.elim (of_decide_eq_false y) fun v => v.elim (of_decide_eq_false z) fun v => v.2 t).symm
      · rw [bne_iff_ne.2 t]
        exact (decide_eq_true (.inr (.inr ⟨of_decide_eq_true u, t⟩))).symm
    · exact (decide_eq_false fun v => v.elim (of_decide_eq_false y) fun v => v.elim (of_decide_eq_false z) fun v => of_decide_eq_false u v.1).symm
  rintro b H6 ⟨rfl, eb⟩
  refine br_intro (fun y => ?_) (fun y => ?_)
  · rw [eb] at y
    rw [if_pos y] at ev
    have fin : FnH Tryz.prog 47 #[.pointer (some ⟨q, 0, none⟩), mgA (tellM 4 m.frm (maxI 0 (minI n1.fin (W (m.index - 1)))) 11) ⟨none, 0, 0⟩] H6 fun r H7 => r = .tuple #[] ∧ K (.tuple #[]) H7 :=
      tell10_spec h2 (Recs.nil _) (by rw [hot]; omega) fun H4 h4 => ⟨rfl, kk H4 (by rw [ev]; exact h4)⟩
    exact ⟨⟨HL.Sub.refl _, ⟨HL.Sub.refl _, ⟨HL.Sub.refl _, fin⟩, fin⟩, fin⟩, fin⟩
  · rw [eb] at y
    rw [if_neg (by rw [y]; decide)] at ev
    refine ⟨_, h3.cell 0 rfl rfl, putL10_spec (l := l) h2 hx hxl (by rw [hst]; omega) fun H11 h11 => ⟨_, rfl, br_intro (fun z => ?_) (fun z => ?_)⟩⟩
    · rw [hst] at z h11
      rw [if_neg (fun u => u (beq_iff_eq.1 z))] at ev
      obtain ⟨o', ms', e', h12⟩ := nodB_open.1 h11
      refine ⟨_, h12.cell 0 rfl rfl, h12.store 0 rfl (by simp) fun H13 h13 => ?_⟩
      rw [← hcm] at ev
      have hln : (m.ent.n : Int) = l.length := by have := hx.len; omega
      rw [hln] at h13 ⊢
      rw [hst, beq_iff_eq.1 z]
      have h14 : HL.Holds (nodB A q c d size s bs { n1 with st := (putS size n.st m.index l).2, commit := maxI n1.commit (minI (W (m.index + l.length)) m.high) } :: ro A :: cs) H13 := nodB_open.2 ⟨o', ms', e', h13⟩
      exact tell10_spec (x := tellM 4 m.frm (W (m.index + l.length)) 0) (sl := ⟨none, 0, 0⟩) h14 (Recs.nil _) (by show n1.out.length ≤ _; rw [hot]; omega) fun H15 h15 => ⟨rfl, kk H15 (by rw [ev]; exact h15)⟩
    · rw [hst] at z h11
      rw [if_pos (beq_eq_false_iff_ne.1 z)] at ev
      rw [hst]
      exact tell10_spec (x := tellM 4 m.frm 0 (putS size n.st m.index l).1) (sl := ⟨none, 0, 0⟩) h11 (Recs.nil _) (by show n1.out.length ≤ _; rw [hot]; omega) fun H15 h15 => ⟨rfl, kk H15 (by rw [ev]; exact h15)⟩
theorem snapAsk10_spec {now : Int} {m : Mw} {l : List En} {pb po : Nat} (h : HL.Holds (nodB A q c d size s bs n :: ro A :: cs) H) (hn : NdOk n) (ho : n.out.length ≤ 96000)
    (kk : ∀ H', HL.Holds (nodB A q c d size s bs (n.snapAsk size now (m.mg l)) :: ro A :: cs) H' → K (.tuple #[]) H') : FnH Tryz.prog 52 #[.pointer (some ⟨q, 0, none⟩), .int .i64 now, .pointer (some ⟨pb, po, none⟩), m.val] H K := by
  refine raft_Node_snapAsk_fn q 0 now pb po m.kind m.frm m.to m.id m.part m.epoch m.offset m.last m.start m.high m.term m.index m.pid m.pep m.seq m.err m.name m.text m.bat m.ent m.ints ?_
  unfold raft_Node_snapAsk_vc
  obtain ⟨o, ms, e, h1⟩ := nodB_open.1 h
  refine ⟨_, h1.cell 0 rfl rfl, br_intro (fun w => ?_) (fun w => ?_)⟩
  · refine kk H ?_
    unfold Nd.snapAsk; rw [if_pos (beq_iff_eq.1 w)]; exact h
  have w : ¬ n.role = 2 := beq_eq_false_iff_ne.1 w
  clear h1 e o ms
  have ev : n.snapAsk size now (m.mg l) = if m.index > n.commit then (if (snapS size n.st m.index m.last m.text).1 ≠ 0 then ({ (n.follow m.frm).anew now with st := (snapS size n.st m.index m.last m.text).2 } : Nd).tell (tellM 6 m.frm 0 (snapS size n.st m.index m.last m.text).1)
      else ({ (n.follow m.frm).anew now with st := (snapS size n.st m.index m.last m.text).2, commit := m.index } : Nd).tell (tellM 6 m.frm m.index 0)) else ((n.follow m.frm).anew now).tell (tellM 6 m.frm m.index 0) := by
    unfold Nd.snapAsk; rw [if_neg w]; rfl
  have hst : ((n.follow m.frm).anew now).st = n.st := rfl
  have hot : ((n.follow m.frm).anew now).out = n.out := rfl
  have hcm : ((n.follow m.frm).anew now).commit = n.commit := rfl
  refine follow10_spec h fun H1 h1 => ⟨rfl, anew10_spec h1 hn.wait.1 fun H2 h2 => ⟨rfl, ?_⟩⟩
  revert ev hst hot hcm h2
  generalize ((n.follow m.frm).anew now) = n1
  intro ev hst hot hcm h2
  obtain ⟨o, ms, e, h3⟩ := nodB_open.1 h2
  refine ⟨_, h3.cell 0 rfl rfl, br_intro (fun y => ?_) (fun y => ?_)⟩
  · rw [if_pos (by rw [← hcm]; exact of_decide_eq_true y)] at ev
    refine ⟨_, h3.cell 0 rfl rfl, snapL10_spec h2 fun H4 h4 => ⟨_, rfl, br_intro (fun z => ?_) (fun z => ?_)⟩⟩
    · rw [hst] at z h4
      rw [if_pos (bne_iff_ne.1 z)] at ev
      rw [hst]
      exact tell10_spec (x := tellM 6 m.frm 0 (snapS size n.st m.index m.last m.text).1) (sl := ⟨none, 0, 0⟩) h4 (Recs.nil _) (by show n1.out.length ≤ _; rw [hot]; omega) fun H15 h15 => ⟨rfl, kk H15 (by rw [ev]; exact h15)⟩
    · rw [hst] at z h4
      rw [if_neg (fun u => u (bne_eq_false_iff_eq.1 z))] at ev
      obtain ⟨o', ms', e', h5⟩ := nodB_open.1 h4
      refine h5.store 0 rfl (by simp) fun H6 h6 => ?_
      have h7 : HL.Holds (nodB A q c d size s bs { n1 with st := (snapS size n.st m.index m.last m.text).2, commit := m.index } :: ro A :: cs) H6 := nodB_open.2 ⟨o', ms', e', h6⟩
      exact tell10_spec (x := tellM 6 m.frm m.index 0) (sl := ⟨none, 0, 0⟩) h7 (Recs.nil _) (by show n1.out.length ≤ _; rw [hot]; omega) fun H15 h15 => ⟨rfl, kk H15 (by rw [ev]; exact h15)⟩
  · rw [if_neg (by rw [← hcm]; exact of_decide_eq_false y)] at ev
    exact tell10_spec (x := tellM 6 m.frm m.index 0) (sl := ⟨none, 0, 0⟩) h2 (Recs.nil _) (by show n1.out.length ≤ _; rw [hot]; omega) fun H15 h15 => ⟨rfl, kk H15 (by rw [ev]; exact h15)⟩
end
end Go.Proofs.YthldclmeojkboaaGreatDoor
namespace Go.Proofs.YthldclmeojkboaaGreatDoor
open Go Go.HL
set_option maxHeartbeats 3200000
set_option maxRecDepth 10000
theorem place_some {n : Nd} {id : Int} {k : Nat} (h : n.place id = some k) : ∃ p, n.ps[k]? = some p ∧ p.id = id := by
  unfold Nd.place at h
  obtain ⟨hk, h1, -⟩ := List.findIdx?_eq_some_iff_getElem.1 h
  exact ⟨n.ps[k], List.getElem?_eq_getElem hk, by simpa using h1⟩
theorem place_at {n : Nd} {id : Int} {k : Nat} {p : Pr} (h0 : ∀ j p, j < k → n.ps[j]? = some p → ¬ p.id = id) (hp : n.ps[k]? = some p) (e : p.id = id) : n.place id = some k := by
  obtain ⟨hk, e1⟩ := List.getElem?_eq_some_iff.1 hp
  refine List.findIdx?_eq_some_iff_getElem.2 ⟨hk, by rw [e1]; simpa using e, fun j hj => ?_⟩
  have := h0 j n.ps[j] hj (List.getElem?_eq_getElem (by omega))
  simpa using this
theorem place_none {n : Nd} {id : Int} (h0 : ∀ j p, j < n.ps.length → n.ps[j]? = some p → ¬ p.id = id) : n.place id = none := by
  refine List.findIdx?_eq_none_iff.2 fun p hp => ?_
  obtain ⟨j, hj, e⟩ := List.mem_iff_getElem.1 hp
  have := h0 j p hj (by rw [List.getElem?_eq_getElem hj, e])
  simpa using this
theorem said_nil {n : Nd} (h : n.out = []) : n.said = n := by
  cases n
  simp only [Nd.said] at h ⊢
  rw [h]
section
variable {cs : List Chunk} {H A : Heap} {K : Value → Heap → Prop} {q c d : Nat} {size : Int} {s : Sl} {bs : List Nat} {n : Nd}
theorem matched10_spec {now : Int} {m : Mw} {l : List En} {k b : Nat} {p : Pr} (h : HL.Holds (nodB A q c d size s bs n :: ro A :: cs) H) (hm : MwOk m) (hb : bs[k]? = some b) (hp : n.ps[k]? = some p) (hn : NdOk n) (ho : n.out.length ≤ 96000)
    (kk : ∀ A' H', HL.Sub A A' → HL.Holds (nodB A' q c d size s bs (n.matched k (m.mg l)) :: ro A' :: cs) H' → K (.tuple #[]) H') : FnH Tryz.prog 48 #[.pointer (some ⟨q, 0, none⟩), .int .i64 now, .pointer (some ⟨b, 0, none⟩), m.val] H K := by
  refine raft_Node_matched_fn q 0 now b 0 m.kind m.frm m.to m.id m.part m.epoch m.offset m.last m.start m.high m.term m.index m.pid m.pep m.seq m.err m.name m.text m.bat m.ent m.ints ?_
  unfold raft_Node_matched_vc
  obtain ⟨o, ms, e, h1⟩ := nodB_open.1 h
  have hL := (lgu_ok (i := 1) h1 rfl).1
  have hf : n.fin ≤ 1000000000 := hL.ok.last_le
  have hf0 : 0 ≤ n.fin := by
    show 0 ≤ (lastX n.st).1
    rw [hL.ok.good.last]; have := hL.ok.index.1; omega
  have hpx := hn.nxt p (List.mem_of_getElem? hp)
  have hix := hm.index
  have at_ := nodL_at (cs := ro A :: cs) (q := q) (c := c) (d := d) (size := size) (s := s) (o := o) (ms := ms) hb hp
  have hset : ∀ x : Chunk, ((nodL q c d size s bs n o ms ++ ro A :: cs).set (k + 4) x)[k + 4]? = some x := fun x => by
    rw [List.getElem?_set_self (List.getElem?_eq_some_iff.1 at_).1]
  refine ⟨_, h1.cell 0 rfl rfl, br_intro (fun w => ?_) (fun w => ?_)⟩
  · refine kk A H (HL.Sub.refl _) ?_
    unfold Nd.matched; rw [if_pos (bne_iff_ne.1 w)]; exact h
  have w := bne_eq_false_iff_eq.1 w
  refine ⟨_, h1.cell 0 rfl rfl, ptrm_intro rfl (last10_spec (i := 1) h1 rfl ⟨_, _, rfl, br_intro (fun y => ?_) (fun y => ?_)⟩)⟩
  · have y := beq_iff_eq.1 y
    refine ⟨_, h1.cell (k + 4) at_ rfl, h1.store (k + 4) at_ (by simp) fun H2 h2 => ?_⟩
    have h2 : HL.Holds ((nodL q c d size s bs n o ms ++ ro A :: cs).set (k + 4) (prC b { p with mat := maxI p.mat (minI m.index n.fin) })) H2 := h2
    have hmx : 0 ≤ maxI p.mat (minI m.index n.fin) ∧ maxI p.mat (minI m.index n.fin) ≤ 1000000000 := by
      unfold maxI minI
      split <;> split at * <;> omega
    refine ⟨_, h2.cell (k + 4) (hset _) rfl, h2.store (k + 4) (hset _) (by simp) fun H3 h3 => ?_⟩
    rw [List.set_set, wrap64_id (n := maxI p.mat (minI m.index n.fin) + 1) (by omega) (by omega)] at h3
    have h4 : HL.Holds (nodL q c d size s bs (n.setP k (gotP n.fin m.index)) o ms ++ ro A :: cs) H3 := setP_hold hb hp (p' := gotP n.fin m.index p) rfl h3
    have h5 : HL.Holds (nodB A q c d size s bs (n.setP k (gotP n.fin m.index)) :: ro A :: cs) H3 := nodB_open.2 ⟨o, ms, ⟨by rw [setP_len]; exact e.1, e.2⟩, h4⟩
    have hn2 : NdOk (n.setP k (gotP n.fin m.index)) := hn.setP hp ⟨by show 0 ≤ maxI p.mat (minI m.index n.fin) + 1; omega, by show maxI p.mat (minI m.index n.fin) + 1 ≤ _; omega, hmx.1, hmx.2⟩
    have hps2 : (n.setP k (gotP n.fin m.index)).advance.ps = (n.setP k (gotP n.fin m.index)).ps := (adv_same _ _ _).1
    have hat2 : (n.setP k (gotP n.fin m.index)).advance.ps[k]? = some (gotP n.fin m.index p) := by rw [hps2]; exact setP_at hp
    have hou2 : (n.setP k (gotP n.fin m.index)).advance.out = n.out := (adv_same _ _ _).2.2.2.2.1
    have ev : n.matched k (m.mg l) = if (gotP n.fin m.index p).nxt ≤ n.fin then (n.setP k (gotP n.fin m.index)).advance.send (gotP n.fin m.index p) else (n.setP k (gotP n.fin m.index)).advance := by
      unfold Nd.matched
      refine (if_neg (fun z => z w)).trans ((if_pos (show (m.mg l).err = 0 from y)).trans ?_)
      show (match (n.setP k (gotP n.fin m.index)).advance.ps[k]? with | some p => _ | none => _) = _
      rw [hat2]; rfl
    refine advance10_spec h5 hn2 fun H6 h6 => ⟨rfl, ?_⟩
    obtain ⟨o2, ms2, e2, h7⟩ := nodB_open.1 h6
    have at2 := nodL_at (cs := ro A :: cs) (q := q) (c := c) (d := d) (size := size) (s := s) (o := o2) (ms := ms2) (n := (n.setP k (gotP n.fin m.index)).advance) hb hat2
    refine ⟨_, h7.cell (k + 4) at2 rfl, br_intro (fun z => ?_) (fun z => ?_)⟩
    · rw [if_pos (of_decide_eq_true z)] at ev
      exact send10_spec h6 hb hat2 (hn2.advance hf) (by rw [hou2]; omega) fun A' H8 sA h8 => ⟨rfl, kk A' H8 sA (by rw [ev]; exact h8)⟩
    · rw [if_neg (of_decide_eq_false z)] at ev
      exact kk A H6 (HL.Sub.refl _) (by rw [ev]; exact h6)
  · have y := beq_eq_false_iff_ne.1 y
    refine ⟨fun b H' => H' = H ∧ b = decide (m.err = 11 ∧ m.kind = 4), br_intro (fun z => ⟨rfl, rfl, ?_⟩) (fun z => ⟨rfl, rfl, ?_⟩), ?_⟩
    · by_cases t : m.kind = 4
      · rw [t, beq_self_eq_true]; exact (decide_eq_true ⟨beq_iff_eq.1 z, rfl⟩).symm
      · rw [beq_eq_false_iff_ne.2 t]; exact (decide_eq_false fun u => t u.2).symm
    · exact (decide_eq_false fun u => beq_eq_false_iff_ne.1 z u.1).symm
    rintro bb H6 ⟨rfl, ebb⟩
    refine br_intro (fun z => ?_) (fun z => ?_)
    · have z : m.err = 11 ∧ m.kind = 4 := of_decide_eq_true (by rw [← ebb]; exact z)
      have ev : n.matched k (m.mg l) = (n.setP k (backP m.index)).sendTo k := by
        unfold Nd.matched; exact (if_neg (fun z => z w)).trans ((if_neg (show ¬ (m.mg l).err = 0 from y)).trans (if_pos (show (m.mg l).err = 11 ∧ (m.mg l).kind = 4 from z)))
      refine ⟨_, h1.cell (k + 4) at_ rfl, _, h1.cell (k + 4) at_ rfl, h1.store (k + 4) at_ (by simp) fun H7 h7 => ?_⟩
      rw [wrap64_id (n := p.mat + 1) (by omega) (by omega)] at h7
      have h4 : HL.Holds (nodL q c d size s bs (n.setP k (backP m.index)) o ms ++ ro A :: cs) H7 := setP_hold hb hp (p' := backP m.index p) rfl h7
      have h5 : HL.Holds (nodB A q c d size s bs (n.setP k (backP m.index)) :: ro A :: cs) H7 := nodB_open.2 ⟨o, ms, ⟨by rw [setP_len]; exact e.1, e.2⟩, h4⟩
      have hw := wrap64_id (n := p.nxt - 1) (by omega) (by omega)
      have hbk : 0 ≤ (backP m.index p).nxt ∧ (backP m.index p).nxt ≤ 1000000001 := by
        show 0 ≤ maxI (maxI 1 (p.mat + 1)) (minI (W (p.nxt - 1)) (W (m.index + 1))) ∧ _ ≤ _
        show 0 ≤ maxI (maxI 1 (p.mat + 1)) (minI (W (p.nxt - 1)) (W (m.index + 1))) ∧ maxI (maxI 1 (p.mat + 1)) (minI (W (p.nxt - 1)) (W (m.index + 1))) ≤ _
        unfold W
        rw [hw]
        generalize IntKind.wrap .i64 (m.index + 1) = x
        unfold maxI minI
        (repeat' split) <;> omega
      have hn2 : NdOk (n.setP k (backP m.index)) := hn.setP hp ⟨hbk.1, hbk.2, hpx.2.2.1, hpx.2.2.2⟩
      have ev2 : (n.setP k (backP m.index)).sendTo k = (n.setP k (backP m.index)).send (backP m.index p) := by
        unfold Nd.sendTo; rw [setP_at hp]
      exact send10_spec h5 hb (setP_at hp) hn2 (by show n.out.length ≤ _; omega) fun A' H8 sA h8 => ⟨rfl, kk A' H8 sA (by rw [ev, ev2]; exact h8)⟩
    · have z : ¬ (m.err = 11 ∧ m.kind = 4) := of_decide_eq_false (by rw [← ebb]; exact z)
      have ev : n.matched k (m.mg l) = n := by
        unfold Nd.matched; exact (if_neg (fun z => z w)).trans ((if_neg (show ¬ (m.mg l).err = 0 from y)).trans (if_neg (show ¬ ((m.mg l).err = 11 ∧ (m.mg l).kind = 4) from z)))
      exact kk A H6 (HL.Sub.refl _) (by rw [ev]; exact h)
theorem place10_spec {m : Mw} {qm : Nat} (h : HL.Holds (nodB A q c d size s bs n :: cs) H) (hq : H qm = some (.cells m.arr 33 (0, 0))) (hps : n.ps.length ≤ 6) (k0 : n.place m.frm = none → K (.int .i64 (-1)) H) (k1 : ∀ k : Nat, n.place m.frm = some k → K (.int .i64 (k : Int)) H) :
    FnH Tryz.prog 43 #[.slice s.p s.n s.c, .func (.func 44) #[] #[.pointer (some ⟨qm, 0, none⟩)]] H K := by
  refine IndexFunc_Step_fn s qm ?_
  unfold IndexFunc_Step_vc
  obtain ⟨o, ms, e, h1⟩ := nodB_open.1 h
  have hbl : bs.length ≤ 6 := by rw [e.1]; exact hps
  have hsn := ptr_len h1 hbl
  have e1 := e.1
  refine ⟨fun i H' => H' = H ∧ 0 ≤ i ∧ i ≤ s.n ∧ ∀ j p, j < i.toNat → n.ps[j]? = some p → ¬ p.id = m.frm, fun i _ => (s.n - i).toNat, ⟨rfl, Int.le_refl _, by omega, fun j p hj => by simp at hj⟩, ?_⟩
  rintro i H1 ⟨rfl, i0, i1, hno⟩
  refine br_intro (fun w => ?_) (fun w => ?_)
  · have w := of_decide_eq_true w
    obtain ⟨pb, po, b, g1, g2, g3⟩ := ptr_at h1 hbl i0 w
    obtain ⟨p, hp⟩ : ∃ p, n.ps[i.toNat]? = some p := ⟨_, List.getElem?_eq_getElem (by omega)⟩
    rw [wrap64_id (n := i + 1) (by omega) (by omega)]
    have cm : cellH H1 ⟨qm, 1, none⟩ = some (.int .i64 m.frm) := by rw [cellH_eq hq]; rfl
    refine ⟨pb, po, g1, i0, w, _, g3, raft_Node_Step_1_fn b 0 qm ⟨_, h1.cell (i.toNat + 4) (nodL_at g2 hp) rfl, _, cm, ⟨_, rfl, br_intro (fun y => ?_) (fun y => ⟨rfl, ⟨rfl, by omega, by omega, fun j x hj hx => ?_⟩, by dsimp only; omega⟩)⟩⟩⟩
    · have e2 : ((i.toNat : Nat) : Int) = i := by omega
      rw [← e2]
      exact k1 i.toNat (place_at hno hp (beq_iff_eq.1 y))
    · by_cases z : j = i.toNat
      · subst z
        rw [hp] at hx
        cases hx
        exact beq_eq_false_iff_ne.1 y
      · exact hno j x (by omega) hx
  · have w := of_decide_eq_false w
    exact k0 (place_none fun j p hj hp => hno j p (by omega) hp)
def fvOf (q : Nat) (kind : Int) : Fv := ⟨if kind = 1 then 49 else if kind = 2 then 50 else if kind = 3 then 51 else if kind = 5 then 52 else 48, #[.pointer (some ⟨q, 0, none⟩)], #[]⟩
theorem step10_spec {now : Int} {m : Mw} {l : List En} (h : HL.Holds (nodB A q c d size s bs n :: ro A :: cs) H) (hm : MwOk m) (hx : Recs eE A m.ent l) (hxl : m.kind = 3 → m.to = n.id → n.place m.frm ≠ none → l.length ≤ 1000 ∧ n.st.l.length + l.length ≤ 99000) (hn : NdOk n) (ho : n.out = []) (hl : n.st.l.length ≤ 99000)
    (kk : ∀ A' (o : Sl) (ms : List Mo) H', HL.Sub A A' → ms.map Prod.fst = (n.step size now (m.mg l)).out → MsIn A' ms → HL.Holds (own 33 21 o (ms.flatMap eM) :: nodB A' q c d size s bs (n.step size now (m.mg l)).said :: ro A' :: cs) H' → K (.slice o.p o.n o.c) H') :
    FnH Tryz.prog 15 #[.pointer (some ⟨q, 0, none⟩), .int .i64 now, m.val] H K := by
  refine raft_Node_Step_fn q 0 now m.kind m.frm m.to m.id m.part m.epoch m.offset m.last m.start m.high m.term m.index m.pid m.pep m.seq m.err m.name m.text m.bat m.ent m.ints ?_
  unfold raft_Node_Step_vc
  refine h.new fun qm H1 h1 => ?_
  have hq := h1.get 0 rfl
  have h2 : HL.Holds (nodB A q c d size s bs n :: blk qm (.cells m.arr 33 (0, 0)) :: ro A :: cs) H1 := h1.swap
  obtain ⟨o, ms, e, h3⟩ := nodB_open.1 h2
  have nothing : ∀ {n2 : Nd} {H' : Heap}, n.step size now (m.mg l) = n2 → n2.out = [] → HL.Holds (nodB A q c d size s bs n2 :: blk qm (.cells m.arr 33 (0, 0)) :: ro A :: cs) H' → K (.slice none 0 0) H' := fun {n2 H'} es eo h' => by
    refine kk A ⟨none, 0, 0⟩ [] H' (HL.Sub.refl _) (by rw [es, eo]; rfl) (fun x hx => by cases hx) ?_
    rw [es, said_nil eo]
    exact (h'.swap.tail).own_nil 33 21
  have kind := hm.kind
  have self : ∀ (x : m.to ≠ n.id ∨ m.kind < 1 ∨ m.kind > 6 ∨ m.term < 0 ∨ n.place m.frm = none), n.step size now (m.mg l) = n := fun x => by
    unfold Nd.step
    show (match n.place m.frm with | none => n | some k => _) = n
    cases ep : n.place m.frm with
    | none => rfl
    | some k =>
      have x : m.to ≠ n.id ∨ m.kind < 1 ∨ m.kind > 6 ∨ m.term < 0 := by
        rcases x with x | x | x | x | x
        · exact .inl x
        · exact .inr (.inl x)
        · exact .inr (.inr (.inl x))
        · exact .inr (.inr (.inr x))
        · rw [ep] at x; cases x
      show (if m.to ≠ n.id ∨ m.kind < 1 ∨ m.kind > 6 ∨ m.term < 0 then n else _) = n
      rw [if_pos x]
  have ck : ∀ (H' : Heap), H' qm = some (.cells m.arr 33 (0, 0)) → ∀ (i : Nat) (v : Value), m.arr[i]? = some v → cellH H' ⟨qm, i, none⟩ = some v := fun H' hq' i v hv => by rw [cellH_eq hq']; exact hv
  refine ⟨s, h3.cell 0 rfl rfl, place10_spec h2 hq hn.ps (fun ep => ⟨_, rfl, _, ck _ hq 2 _ rfl, _, h3.cell 0 rfl rfl, ?_⟩) fun k ep => ⟨_, rfl, _, ck _ hq 2 _ rfl, _, h3.cell 0 rfl rfl, ?_⟩⟩
  · have es := self (.inr (.inr (.inr (.inr ep))))
    exact br_intro (fun _ => nothing es ho h2) (fun _ => br_t rfl (nothing es ho h2))
  refine br_intro (fun w => nothing (self (.inl (bne_iff_ne.1 w))) ho h2) (fun w => br_f (decide_eq_false (by omega)) ⟨_, ck _ hq 0 _ rfl, br_intro (fun w2 => nothing (self (.inr (.inl (of_decide_eq_true w2)))) ho h2) (fun w2 => ⟨_, ck _ hq 0 _ rfl, br_intro (fun w3 => nothing (self (.inr (.inr (.inl (of_decide_eq_true w3))))) ho h2) (fun w3 => ⟨_, ck _ hq 10 _ rfl, br_intro (fun w4 => nothing (self (.inr (.inr (.inr (.inl (of_decide_eq_true w4)))))) ho h2) (fun w4 => ?_)⟩)⟩)⟩)
  have w := bne_eq_false_iff_eq.1 w
  have w2 := of_decide_eq_false w2
  have w3 := of_decide_eq_false w3
  have w4 := of_decide_eq_false w4
  clear self
  have es : n.step size now (m.mg l) = if m.term > n.st.term then (if (n.turn size m.term 0).1 ≠ 0 then (n.turn size m.term 0).2 else ((n.turn size m.term 0).2.follow 0).step1 size now k (m.mg l)) else n.step1 size now k (m.mg l) := by
    unfold Nd.step
    show (match n.place m.frm with | none => n | some k => _) = _
    rw [ep]
    show (if m.to ≠ n.id ∨ m.kind < 1 ∨ m.kind > 6 ∨ m.term < 0 then n else _) = _
    rw [if_neg (by rintro (z | z | z | z); exact z w; exact w2 z; exact w3 z; exact w4 z)]
    rfl
  refine ⟨fun H' => ∃ n2 : Nd, n.step size now (m.mg l) = n2.step1 size now k (m.mg l) ∧ NdOk n2 ∧ n2.out = [] ∧ n2.st.l = n.st.l ∧ n2.ps = n.ps ∧ HL.Holds (nodB A q c d size s bs n2 :: blk qm (.cells m.arr 33 (0, 0)) :: ro A :: cs) H', ⟨_, ck _ hq 10 _ rfl, _, h3.cell 0 rfl rfl, ptrm_intro rfl (term10_spec (i := 1) h3 rfl ⟨_, rfl, HL.Sub.refl _, br_intro (fun y => ⟨_, h3.cell 0 rfl rfl, _, ck _ hq 10 _ rfl, turnL10_spec h2 fun H4 h4 => ⟨_, rfl, br_intro (fun z => ?_) (fun z => follow10_spec h4 fun H5 h5 => ⟨rfl, rfl, (n.turn size m.term 0).2.follow 0, ?_, hn.of rfl rfl rfl rfl, ho, (turnS_same _ _ _ _).1, rfl, h5⟩)⟩⟩) (fun y => ⟨rfl, n, ?_, hn, ho, rfl, rfl, h2⟩)⟩)⟩, ?_⟩
  · rw [if_pos (of_decide_eq_true y), if_pos (bne_iff_ne.1 z)] at es
    exact nothing es ho h4
  · rw [if_pos (of_decide_eq_true y), if_neg (fun u => u (bne_eq_false_iff_eq.1 z))] at es
    exact es
  · rw [if_neg (of_decide_eq_false y)] at es
    exact es
  clear h h1 h2 h3 hq e o ms es
  rintro H6 ⟨n2, es, hn2, ho2, hl2, hps2, h2⟩
  have hq := h2.get 1 rfl
  obtain ⟨o, ms, e, h3⟩ := nodB_open.1 h2
  obtain ⟨p, hp, -⟩ := place_some ep
  rw [← hps2] at hp
  have hk : k < bs.length := by rw [e.1]; exact (List.getElem?_eq_some_iff.1 hp).1
  have hbl : bs.length ≤ 6 := by rw [e.1]; exact hn2.ps
  have hsn := ptr_len h3 hbl
  have said : ∀ {n3 : Nd} {A' H' : Heap}, HL.Sub A A' → n.step size now (m.mg l) = n3 → HL.Holds (nodB A' q c d size s bs n3 :: ro A' :: blk qm (.cells m.arr 33 (0, 0)) :: cs) H' → FnH Tryz.prog 37 #[.pointer (some ⟨q, 0, none⟩)] H' fun r H'' => ∃ l : Sl, r = .slice l.p l.n l.c ∧ K (.slice l.p l.n l.c) H'' := fun {n3 A' H'} sA em h' => by
    subst em
    refine said10_spec h' fun o ms H'' e1 e2 h'' => ⟨o, rfl, kk A' o ms H'' sA e1 e2 ?_⟩
    have h5 : HL.Holds (blk qm (.cells m.arr 33 (0, 0)) :: own 33 21 o (ms.flatMap eM) :: nodB A' q c d size s bs (n.step size now (m.mg l)).said :: ro A' :: cs) H'' := h''.pull 3 rfl
    exact h5.tail
  have h2' : HL.Holds (nodB A q c d size s bs n2 :: ro A :: blk qm (.cells m.arr 33 (0, 0)) :: cs) H6 := h2.perm (List.Perm.cons _ (List.Perm.swap _ _ _))
  refine ⟨_, ck _ hq 10 _ rfl, _, h3.cell 0 rfl rfl, ptrm_intro rfl (term10_spec (i := 1) h3 rfl ⟨_, rfl, HL.Sub.refl _, br_intro (fun y => ⟨_, ck _ hq 0 _ rfl, by decide, br_intro (fun z => ⟨_, ck _ hq 0 _ rfl, _, ck _ hq 1 _ rfl, ?_⟩) (fun z => ?_)⟩) (fun y => ?_)⟩)⟩
  · rw [wrap64_id (n := m.kind + 1) (by omega) (by omega)]
    have ev : n2.step1 size now k (m.mg l) = n2.tell (tellM (m.kind + 1) m.frm 0 13) := by
      unfold Nd.step1
      show (if m.term < n2.st.term then (if Int.tmod m.kind 2 = 1 then _ else _) else _) = _
      rw [if_pos (of_decide_eq_true y), if_pos (beq_iff_eq.1 z)]; rfl
    exact tell10_spec (x := tellM (m.kind + 1) m.frm 0 13) (sl := ⟨none, 0, 0⟩) h2' (Recs.nil _) (by rw [ho2]; decide) fun H8 h8 => ⟨rfl, said (HL.Sub.refl _) (es.trans ev) h8⟩
  · have ev : n2.step1 size now k (m.mg l) = n2 := by
      unfold Nd.step1
      show (if m.term < n2.st.term then (if Int.tmod m.kind 2 = 1 then _ else _) else _) = _
      rw [if_pos (of_decide_eq_true y), if_neg (beq_eq_false_iff_ne.1 z)]
    exact said (HL.Sub.refl _) (es.trans ev) h2'
  have ev : n2.step1 size now k (m.mg l) = n2.step2 size now k (m.mg l) := by
    unfold Nd.step1
    show (if m.term < n2.st.term then (if Int.tmod m.kind 2 = 1 then _ else _) else _) = _
    rw [if_neg (of_decide_eq_false y)]
  have es := es.trans ev
  refine ⟨fun fv H' => H' = H6 ∧ fv = fvOf q m.kind, ⟨_, ck _ hq 0 _ rfl, br_intro (fun z => ⟨rfl, rfl, ?_⟩) (fun z1 => br_intro (fun z => ⟨rfl, rfl, ?_⟩) (fun z2 => br_intro (fun z => ⟨rfl, rfl, ?_⟩) (fun z3 => br_intro (fun z => ⟨rfl, rfl, ?_⟩) (fun z4 => ⟨rfl, rfl, ?_⟩))))⟩, ?_⟩
  · have z := beq_iff_eq.1 z
    unfold fvOf; rw [if_pos z]
  · have z1 := beq_eq_false_iff_ne.1 z1
    have z := beq_iff_eq.1 z
    unfold fvOf; rw [if_neg z1, if_pos z]
  · have z1 := beq_eq_false_iff_ne.1 z1
    have z2 := beq_eq_false_iff_ne.1 z2
    have z := beq_iff_eq.1 z
    unfold fvOf; rw [if_neg z1, if_neg z2, if_pos z]
  · have z1 := beq_eq_false_iff_ne.1 z1
    have z2 := beq_eq_false_iff_ne.1 z2
    have z3 := beq_eq_false_iff_ne.1 z3
    have z := beq_iff_eq.1 z
    unfold fvOf; rw [if_neg z1, if_neg z2, if_neg z3, if_pos z]
  · have z1 := beq_eq_false_iff_ne.1 z1
    have z2 := beq_eq_false_iff_ne.1 z2
    have z3 := beq_eq_false_iff_ne.1 z3
    have z4 := beq_eq_false_iff_ne.1 z4
    unfold fvOf; rw [if_neg z1, if_neg z2, if_neg z3, if_neg z4]
  rintro fv H7 ⟨rfl, rfl⟩
  obtain ⟨pb, po, b, g1, g2, g3⟩ := ptr_at h3 hbl (i := (k : Int)) (by omega) (by omega)
  have ekk : ((k : Int)).toNat = k := by omega
  rw [ekk] at g2
  refine ⟨s, h3.cell 0 rfl rfl, pb, po, g1, by omega, by omega, _, g3, _, ck _ hq 0 _ rfl, _, ck _ hq 1 _ rfl, _, ck _ hq 2 _ rfl, _, ck _ hq 3 _ rfl, _, ck _ hq 4 _ rfl, _, ck _ hq 5 _ rfl, _, ck _ hq 6 _ rfl, _, ck _ hq 7 _ rfl, _, ck _ hq 8 _ rfl, _, ck _ hq 9 _ rfl, _, ck _ hq 10 _ rfl, _, ck _ hq 11 _ rfl, _, ck _ hq 12 _ rfl, _, ck _ hq 13 _ rfl, _, ck _ hq 14 _ rfl, _, ck _ hq 15 _ rfl, _, ck _ hq 16 _ rfl, _, ck _ hq 17 _ rfl, m.bat, ck _ hq 18 _ rfl, m.ent, ck _ hq 19 _ rfl, m.ints, ck _ hq 20 _ rfl, ?_⟩
  have ol : n2.out.length ≤ 96000 := by rw [ho2]; decide
  by_cases z1 : m.kind = 1
  · have efv : fvOf q m.kind = ⟨49, #[.pointer (some ⟨q, 0, none⟩)], #[]⟩ := by unfold fvOf; rw [if_pos z1]
    have ev2 : n2.step2 size now k (m.mg l) = n2.voteAsk size now (m.mg l) := by unfold Nd.step2; exact if_pos z1
    rw [efv]
    refine callV_intro (by kernel_rfl) ?_
    exact voteAsk10_spec (l := l) h2' hn2 ol fun H8 h8 => ⟨rfl, said (HL.Sub.refl _) (es.trans ev2) h8⟩
  by_cases z2 : m.kind = 2
  · have efv : fvOf q m.kind = ⟨50, #[.pointer (some ⟨q, 0, none⟩)], #[]⟩ := by unfold fvOf; rw [if_neg z1, if_pos z2]
    have ev2 : n2.step2 size now k (m.mg l) = n2.voteTell size now k (m.mg l) := by unfold Nd.step2; exact (if_neg z1).trans (if_pos z2)
    rw [efv]
    refine callV_intro (by kernel_rfl) ?_
    exact voteTell10_spec (l := l) h2' g2 hp hn2 ol (by rw [hl2]; exact hl) fun A' H8 sA h8 => ⟨rfl, said sA (es.trans ev2) h8⟩
  by_cases z3 : m.kind = 3
  · have efv : fvOf q m.kind = ⟨51, #[.pointer (some ⟨q, 0, none⟩)], #[]⟩ := by unfold fvOf; rw [if_neg z1, if_neg z2, if_pos z3]
    have ev2 : n2.step2 size now k (m.mg l) = n2.appendAsk size now (m.mg l) := by unfold Nd.step2; exact ((if_neg z1).trans (if_neg z2)).trans (if_pos z3)
    rw [efv]
    refine callV_intro (by kernel_rfl) ?_
    obtain ⟨x1, x2⟩ := hxl z3 w (by rw [ep]; exact fun h => by cases h)
    exact appendAsk10_spec (l := l) h2' hm hx x1 hn2 ol (by rw [hl2]; omega) fun H8 h8 => ⟨rfl, said (HL.Sub.refl _) (es.trans ev2) h8⟩
  by_cases z5 : m.kind = 5
  · have efv : fvOf q m.kind = ⟨52, #[.pointer (some ⟨q, 0, none⟩)], #[]⟩ := by unfold fvOf; rw [if_neg z1, if_neg z2, if_neg z3, if_pos z5]
    have ev2 : n2.step2 size now k (m.mg l) = n2.snapAsk size now (m.mg l) := by unfold Nd.step2; exact (((if_neg z1).trans (if_neg z2)).trans (if_neg z3)).trans (if_pos z5)
    rw [efv]
    refine callV_intro (by kernel_rfl) ?_
    exact snapAsk10_spec (l := l) h2' hn2 ol fun H8 h8 => ⟨rfl, said (HL.Sub.refl _) (es.trans ev2) h8⟩
  · have efv : fvOf q m.kind = ⟨48, #[.pointer (some ⟨q, 0, none⟩)], #[]⟩ := by unfold fvOf; rw [if_neg z1, if_neg z2, if_neg z3, if_neg z5]
    have ev2 : n2.step2 size now k (m.mg l) = n2.matched k (m.mg l) := by unfold Nd.step2; exact (((if_neg z1).trans (if_neg z2)).trans (if_neg z3)).trans (if_neg z5)
    rw [efv]
    refine callV_intro (by kernel_rfl) ?_
    exact matched10_spec (l := l) h2' hm g2 hp hn2 ol fun A' H8 sA h8 => ⟨rfl, said sA (es.trans ev2) h8⟩
end
end Go.Proofs.YthldclmeojkboaaGreatDoor
namespace Go.Proofs.YthldclmeojkboaaGreatDoor
open Go Go.HL
set_option maxHeartbeats 1600000
set_option maxRecDepth 10000
theorem Lg.fin {st : RS} (h : Lg st) : 0 ≤ (lastX st).1 ∧ (lastX st).1 ≤ 1000000000 := ⟨by rw [h.ok.good.last]; have := h.ok.index.1; omega, h.ok.last_le⟩
theorem lead_st (size : Int) (n : Nd) (now : Int) : (n.lead size now).st = (n.lead1.put size ⟨#[]⟩).2.2.st := by
  unfold Nd.lead
  split
  · rfl
  · show ((n.lead1.put size ⟨#[]⟩).2.2.advance.all).st = _
    exact ((sends_ps (n.lead1.put size ⟨#[]⟩).2.2.advance.ps (n.lead1.put size ⟨#[]⟩).2.2.advance).2.1).trans (adv_same _ _ _).2.1
theorem NdOk.beats {n : Nd} (h : NdOk n) (now : Int) : NdOk (n.beats now) := by
  obtain ⟨a, -, c, d, e, -⟩ := sends_ps n.ps n
  exact h.of a c d e
theorem NdOk.lead1 {n : Nd} (h : NdOk n) (hf : 0 ≤ n.fin ∧ n.fin ≤ 1000000000) : NdOk n.lead1 := ⟨h.wait, h.draw, by show (n.ps.map _).length ≤ 6; rw [List.length_map]; exact h.ps, fun p hp => by
  obtain ⟨p', -, rfl⟩ := List.mem_map.1 hp
  exact ⟨by show 0 ≤ n.fin + 1; omega, by show n.fin + 1 ≤ _; omega, Int.le_refl _, by show (0 : Int) ≤ _; decide⟩, h.commit⟩
theorem NdOk.lead {size : Int} {n : Nd} {now : Int} (h : NdOk n) (hL : Lg n.st) (hL' : Lg (n.lead size now).st) : NdOk (n.lead size now) := by
  have h1 : NdOk (n.lead1.put size ⟨#[]⟩).2.2 := (h.lead1 hL.fin).of rfl rfl rfl rfl
  rw [lead_st] at hL'
  unfold Nd.lead
  split
  · exact h1.of rfl rfl rfl rfl
  · exact (h1.advance hL'.fin.2).beats now
theorem NdOk.stand {size : Int} {n : Nd} {now : Int} (h : NdOk n) (hL : Lg n.st) (hL' : Lg (n.stand size now).st) : NdOk (n.stand size now) := by
  have h1 : NdOk (n.stood size now).2 := h.of rfl rfl rfl rfl
  have hl1 : (n.stood size now).2.cand.fin = n.fin := by
    have e := turnS_same size n.st (n.st.term + 1) n.id
    show (lastX (turnS size n.st (n.st.term + 1) n.id).2).1 = (lastX n.st).1
    unfold lastX; rw [e.1, e.2.1, e.2.2.1]
  rw [stand_eq] at hL' ⊢
  split
  · exact h1
  · rename_i y
    rw [if_neg y] at hL'
    split
    · rename_i z
      rw [if_pos z] at hL'
      have h2 : NdOk ((n.stood size now).2.cand.lead1.put size ⟨#[]⟩).2.2 := (h1.cand.lead1 (by rw [hl1]; exact hL.fin)).of rfl rfl rfl rfl
      rw [lead_st] at hL'
      unfold Nd.lead
      split
      · exact h2.of rfl rfl rfl rfl
      · exact (h2.advance hL'.fin.2).beats now
    · obtain ⟨a1, -, a3, a4, a5, -⟩ := tells_ps (n.stood size now).2.cand (fun _ p => askM (n.stood size now).2.cand p) (n.stood size now).2.cand.ps (n.stood size now).2.cand
      exact h1.cand.of a1 a3 a4 a5
theorem dist_in {d : Int} (h : i64B d) : 0 ≤ dist d ∧ dist d ≤ 9223372036854775807 := by
  have h1 := h.1
  have h2 := h.2
  unfold dist; split <;> omega
theorem NdOk.tick {size : Int} {n : Nd} {now draw : Int} (h : NdOk n) (hd : i64B draw) (hL : Lg n.st) (hL' : Lg (n.tick size now draw).st) : NdOk (n.tick size now draw) := by
  have h1 : NdOk ({ n with draw := dist draw } : Nd) := ⟨h.wait, dist_in hd, h.ps, h.nxt, h.commit⟩
  unfold Nd.tick at hL' ⊢
  revert hL'
  generalize hm : ({ n with draw := dist draw } : Nd) = m at h1
  have hst : m.st = n.st := by rw [← hm]
  unfold Nd.tick1
  split
  · intro _
    split
    · exact h1.beats now
    · exact h1
  · dsimp only
    have h2 : NdOk (if m.deadline = -1 then m.anew now else m) := by split; exact h1.of rfl rfl rfl rfl; exact h1
    have hs2 : (if m.deadline = -1 then m.anew now else m).st = m.st := by split <;> rfl
    revert h2 hs2
    generalize (if m.deadline = -1 then m.anew now else m) = x
    intro h2 hs2
    split
    · intro hL'
      exact h2.stand (by rw [hs2, hst]; exact hL) hL'
    · intro _
      exact h2
theorem NdOk.setVote {n : Nd} (h : NdOk n) (k : Nat) : NdOk (n.setP k fun p => { p with vote := true }) := by
  cases hp : n.ps[k]? with
  | none =>
    have : n.ps.modify k (fun p => { p with vote := true }) = n.ps := by
      apply List.ext_getElem?
      intro j
      rw [List.getElem?_modify]
      by_cases e : k = j
      · subst e; rw [hp]; rfl
      · simp [e]
    refine h.of ?_ rfl rfl rfl
    exact this
  | some p => exact h.setP hp (h.nxt p (List.mem_of_getElem? hp))
theorem NdOk.setGot {n : Nd} (h : NdOk n) (hL : Lg n.st) (k : Nat) (i : Int) : NdOk (n.setP k (gotP n.fin i)) := by
  have hf := hL.fin
  cases hp : n.ps[k]? with
  | none =>
    have : n.ps.modify k (gotP n.fin i) = n.ps := by
      apply List.ext_getElem?
      intro j
      rw [List.getElem?_modify]
      by_cases e : k = j
      · subst e; rw [hp]; rfl
      · simp [e]
    exact h.of this rfl rfl rfl
  | some p =>
    have hpx := h.nxt p (List.mem_of_getElem? hp)
    have hmx : 0 ≤ maxI p.mat (minI i n.fin) ∧ maxI p.mat (minI i n.fin) ≤ 1000000000 := by
      have : n.fin = (lastX n.st).1 := rfl
      unfold maxI minI
      split <;> split at * <;> omega
    exact h.setP hp ⟨by show 0 ≤ maxI p.mat (minI i n.fin) + 1; omega, by show maxI p.mat (minI i n.fin) + 1 ≤ _; omega, hmx.1, hmx.2⟩
theorem NdOk.setBack {n : Nd} (h : NdOk n) (k : Nat) (i : Int) : NdOk (n.setP k (backP i)) := by
  cases hp : n.ps[k]? with
  | none =>
    have : n.ps.modify k (backP i) = n.ps := by
      apply List.ext_getElem?
      intro j
      rw [List.getElem?_modify]
      by_cases e : k = j
      · subst e; rw [hp]; rfl
      · simp [e]
    exact h.of this rfl rfl rfl
  | some p =>
    have hpx := h.nxt p (List.mem_of_getElem? hp)
    have hw := wrap64_id (n := p.nxt - 1) (by omega) (by omega)
    refine h.setP hp ⟨?_, ?_, hpx.2.2.1, hpx.2.2.2⟩
    all_goals
      show _ ≤ _
      simp only [backP, W]
      rw [hw]
      generalize IntKind.wrap .i64 (i + 1) = x
      unfold maxI minI
      (repeat' split) <;> omega
theorem NdOk.step2 {size : Int} {n : Nd} {now : Int} {k : Nat} {m : Mg} (h : NdOk n) (hL : Lg n.st) (hm : i64B m.index) (hml : m.kind = 3 → m.ents.length ≤ 1000) (hL' : Lg (n.step2 size now k m).st) : NdOk (n.step2 size now k m) := by
  unfold Nd.step2 at hL' ⊢
  have hc := h.commit
  split
  · unfold Nd.voteAsk
    split
    · exact h.of rfl rfl rfl rfl
    · dsimp only
      split
      · exact h.of rfl rfl rfl rfl
      · exact h.of rfl rfl rfl rfl
  · rename_i e1
    rw [if_neg e1] at hL'
    split
    · rename_i e2
      rw [if_pos e2] at hL'
      unfold Nd.voteTell at hL' ⊢
      split
      · exact h
      · rename_i e3
        rw [if_neg e3] at hL'
        dsimp only at hL' ⊢
        split
        · rename_i e4
          rw [if_pos e4] at hL'
          exact (h.setVote k).lead hL hL'
        · exact h.setVote k
    · rename_i e2
      rw [if_neg e2] at hL'
      split
      · rename_i e3
        have hl := hml e3
        unfold Nd.appendAsk
        split
        · exact h
        · have h1 : NdOk ((n.follow m.frm).anew now) := h.of rfl rfl rfl rfl
          dsimp only
          split
          · exact h1.of rfl rfl rfl rfl
          · rename_i e5
            have hb : m.index ≤ n.fin := by
              refine Int.not_lt.1 fun z => e5 ?_
              exact decide_eq_true (.inr (.inl z))
            have hb0 : 0 ≤ m.index := by
              refine Int.not_lt.1 fun z => e5 ?_
              exact decide_eq_true (.inl z)
            have hf := hL.fin
            have hf' : n.fin = (lastX n.st).1 := rfl
            split
            · exact h1.of rfl rfl rfl rfl
            · have h2 : NdOk ({ (n.follow m.frm).anew now with st := (putS size ((n.follow m.frm).anew now).st m.index m.ents).2, commit := maxI n.commit (minI (W (m.index + m.ents.length)) m.high) } : Nd) := by
                refine ⟨h1.wait, h1.draw, h1.ps, h1.nxt, ?_⟩
                have hw := wrap64_id (n := m.index + m.ents.length) (by omega) (by omega)
                show 0 ≤ maxI n.commit (minI (W (m.index + m.ents.length)) m.high) ∧ maxI n.commit (minI (W (m.index + m.ents.length)) m.high) ≤ _
                unfold W
                rw [hw]
                unfold maxI minI
                split <;> split at * <;> omega
              exact h2.of rfl rfl rfl rfl
      · split
        · unfold Nd.snapAsk
          split
          · exact h
          · have h1 : NdOk ((n.follow m.frm).anew now) := h.of rfl rfl rfl rfl
            dsimp only
            split
            · rename_i e6
              split
              · exact h1.of rfl rfl rfl rfl
              · rename_i e7
                have hin : inX m.index 1 := by
                  refine Decidable.byContradiction fun z => e7 ?_
                  unfold snapS
                  rw [if_pos (fun y => z y.1)]; exact fun y => by cases y
                have h2 : NdOk ({ (n.follow m.frm).anew now with st := (snapS size ((n.follow m.frm).anew now).st m.index m.last m.text).2, commit := m.index } : Nd) := ⟨h1.wait, h1.draw, h1.ps, h1.nxt, by have a := hin.1; have b := hin.2; show 0 ≤ m.index ∧ m.index ≤ _; omega⟩
                exact h2.of rfl rfl rfl rfl
            · exact h1.of rfl rfl rfl rfl
        · unfold Nd.matched
          split
          · exact h
          · split
            · have h2 : NdOk (n.setP k (gotP n.fin m.index)).advance := (h.setGot hL k m.index).advance hL.fin.2
              dsimp only
              split
              · split
                · exact h2.of rfl rfl rfl rfl
                · exact h2
              · exact h2
            · split
              · have h2 := h.setBack k m.index
                unfold Nd.sendTo
                split
                · exact h2.of rfl rfl rfl rfl
                · exact h2
              · exact h
theorem lg_turn {size : Int} {st : RS} (h : Lg st) (t v : Int) : Lg (turnS size st t v).2 := by
  obtain ⟨e1, e2, e3, e4⟩ := turnS_same size st t v
  have h1 : inX (turnS size st t v).2.term 0 ∧ inX (turnS size st t v).2.vote 0 := by
    unfold turnS
    (repeat' split) <;> first | exact ⟨h.ok.term, h.ok.vote⟩ | (rename_i q _ _ _ _; exact Decidable.not_not.1 q)
  refine ⟨⟨h1.1, h1.2, by rw [e2]; exact h.ok.index, by rw [e4]; exact h.ok.data, by rw [e1, e2]; exact h.ok.good, by rw [e1]; exact h.ok.len⟩, fun x hx => ?_⟩
  rw [e1] at hx
  rw [e3]; exact h.up x hx
theorem NdOk.step1 {size : Int} {n : Nd} {now : Int} {k : Nat} {m : Mg} (h : NdOk n) (hL : Lg n.st) (hm : i64B m.index) (hml : m.kind = 3 → m.ents.length ≤ 1000) (hL' : Lg (n.step1 size now k m).st) : NdOk (n.step1 size now k m) := by
  unfold Nd.step1 at hL' ⊢
  split
  · split
    · exact h.of rfl rfl rfl rfl
    · exact h
  · rename_i e
    rw [if_neg e] at hL'
    exact h.step2 hL hm hml hL'
theorem NdOk.step {size : Int} {n : Nd} {now : Int} {m : Mg} (h : NdOk n) (hL : Lg n.st) (hm : i64B m.index) (hml : m.kind = 3 → m.ents.length ≤ 1000) (hL' : Lg (n.step size now m).st) : NdOk (n.step size now m) := by
  unfold Nd.step at hL' ⊢
  split
  · exact h
  · rename_i k ek
    rw [ek] at hL'
    dsimp only at hL' ⊢
    split
    · exact h
    · rename_i e1
      rw [if_neg e1] at hL'
      split
      · rename_i e2
        rw [if_pos e2] at hL'
        split
        · exact h.of rfl rfl rfl rfl
        · rename_i e3
          rw [if_neg e3] at hL'
          exact NdOk.step1 (h.of rfl rfl rfl rfl) (lg_turn hL m.term 0) hm hml hL'
      · rename_i e2
        rw [if_neg e2] at hL'
        exact h.step1 hL hm hml hL'
theorem NdOk.propose {size : Int} {n : Nd} {data : ByteArray} (h : NdOk n) (hL' : Lg (n.propose size data).2.2.st) : NdOk (n.propose size data).2.2 := by
  unfold Nd.propose at hL' ⊢
  split
  · exact h
  · rename_i e
    rw [if_neg e] at hL'
    dsimp only at hL' ⊢
    split
    · exact h.of rfl rfl rfl rfl
    · rename_i e2
      rw [if_neg e2] at hL'
      have h2 : NdOk (n.put size data).2.2 := h.of rfl rfl rfl rfl
      have e3 : ((n.put size data).2.2.advance.all).st = (n.put size data).2.2.st := by
        show ((n.put size data).2.2.advance.ps.foldl Nd.send (n.put size data).2.2.advance).st = _
        rw [(sends_ps _ _).2.1]; exact (adv_same _ _ _).2.1
      have hL' : Lg ((n.put size data).2.2.advance.all).st := hL'
      rw [e3] at hL'
      exact (h2.advance hL'.fin.2).all
end Go.Proofs.YthldclmeojkboaaGreatDoor
namespace Go.Proofs.YthldclmeojkboaaGreatDoor
open Go Go.HL
set_option maxHeartbeats 1600000
set_option maxRecDepth 10000
def goodV (l : List Int) : Prop := ∀ (i : Nat) (v : Int), l[i]? = some v → (1 ≤ v ∧ v ≤ 7) ∧ ∀ u : Int, 0 < i → l[i - 1]? = some u → u < v
def goodN (id : Int) (voters : List Int) (wait : Int) : Prop := 1 ≤ voters.length ∧ voters.length ≤ 7 ∧ id ∈ voters ∧ (1 ≤ wait ∧ wait ≤ 1000000) ∧ goodV voters
section
variable {cs : List Chunk} {H A : Heap} {K : Value → Heap → Prop} {q c d : Nat} {size : Int} {s : Sl} {bs : List Nat} {n : Nd}
theorem leads10_spec {i : Nat} (h : HL.Holds cs H) (ei : cs[i]? = some (nodB A q c d size s bs n)) (k : K (.bool (n.role == 2)) H) : FnH Tryz.prog 20 #[.pointer (some ⟨q, 0, none⟩)] H K := by
  refine raft_Node_Leads_fn q 0 ?_
  unfold raft_Node_Leads_vc
  obtain ⟨⟨o, ms⟩, e, h1⟩ := h.read i ei nodB_mono
  exact ⟨_, h1.cell 0 rfl rfl, k⟩
theorem commit10_spec {i : Nat} (h : HL.Holds cs H) (ei : cs[i]? = some (nodB A q c d size s bs n)) (k : K (.int .i64 n.commit) H) : FnH Tryz.prog 18 #[.pointer (some ⟨q, 0, none⟩)] H K := by
  refine raft_Node_Commit_fn q 0 ?_
  unfold raft_Node_Commit_vc
  obtain ⟨⟨o, ms⟩, e, h1⟩ := h.read i ei nodB_mono
  exact ⟨_, h1.cell 0 rfl rfl, k⟩
theorem propose10_spec {now : Int} {data : ByteArray} (h : HL.Holds (nodB A q c d size s bs n :: ro A :: cs) H) (hn : NdOk n) (ho : n.out = []) (hl : n.st.l.length ≤ 99000)
    (kk : ∀ A' (o : Sl) (ms : List Mo) H', HL.Sub A A' → ms.map Prod.fst = (n.propose size data).2.2.out → MsIn A' ms → HL.Holds (own 33 21 o (ms.flatMap eM) :: nodB A' q c d size s bs (n.propose size data).2.2.said :: ro A' :: cs) H' →
      K (.tuple #[.int .i64 (n.propose size data).1, .slice o.p o.n o.c, .int .i64 (n.propose size data).2.1]) H') : FnH Tryz.prog 17 #[.pointer (some ⟨q, 0, none⟩), .int .i64 now, .string data] H K := by
  refine raft_Node_Propose_fn q 0 now data ?_
  unfold raft_Node_Propose_vc
  obtain ⟨o, ms, e, h1⟩ := nodB_open.1 h
  have nothing : ∀ {n2 : Nd} {H' : Heap} {a b : Int}, n.propose size data = (a, b, n2) → n2.out = [] → HL.Holds (nodB A q c d size s bs n2 :: ro A :: cs) H' → K (.tuple #[.int .i64 a, .slice none 0 0, .int .i64 b]) H' := fun {n2 H' a b} es eo h' => by
    have := kk A ⟨none, 0, 0⟩ [] H' (HL.Sub.refl _) (by rw [es]; show [] = n2.out; rw [eo]) (fun x hx => by cases hx) (by rw [es]; show HL.Holds (_ :: nodB A q c d size s bs n2.said :: _) H'; rw [said_nil eo]; exact h'.own_nil 33 21)
    rw [es] at this
    exact this
  refine ⟨_, h1.cell 0 rfl rfl, br_intro (fun w => nothing (if_pos (bne_iff_ne.1 w)) ho h) (fun w => ?_)⟩
  have w := bne_eq_false_iff_eq.1 w
  have es : n.propose size data = if (n.put size data).2.1 ≠ 0 then (0, (n.put size data).2.1, (n.put size data).2.2) else ((n.put size data).1, 0, (n.put size data).2.2.advance.all) := by
    unfold Nd.propose; exact if_neg fun z => z w
  refine put10n_spec h hl fun H1 h2 => ⟨_, _, rfl, br_intro (fun y => ?_) (fun y => ?_)⟩
  · rw [if_pos (bne_iff_ne.1 y)] at es
    exact nothing es ho h2
  · rw [if_neg (fun u => u (bne_eq_false_iff_eq.1 y))] at es
    have hn2 : NdOk (n.put size data).2.2 := hn.of rfl rfl rfl rfl
    have hL7 := nodB_lg (i := 0) h2 rfl
    have eo : ((n.put size data).2.2.advance).out = [] := ((adv_same _ _ _).2.2.2.2.1).trans ho
    refine advance10_spec h2 hn2 fun H9 h9 => ⟨rfl, all10_spec h9 (hn2.advance hL7.ok.last_le) (by rw [eo]; decide) fun A' H10 sA h10 => ⟨rfl, said10_spec h10 fun o ms H11 e1 e2 h11 => ⟨o, rfl, ?_⟩⟩⟩
    have := kk A' o ms H11 sA (by rw [es]; exact e1) e2 (by rw [es]; exact h11)
    rw [es] at this
    exact this
theorem take10_spec (h : HL.Holds (nodB A q c d size s bs n :: ro A :: cs) H) (hn : NdOk n) (ht : 0 ≤ n.taken ∧ n.taken ≤ 2000000000)
    (kk : ∀ (r : Sl) H', HL.Holds (ownE r n.takeL :: nodB A q c d size s bs n.took :: ro A :: cs) H' → K (.tuple #[.slice r.p r.n r.c, .bool (decide (n.st.index > n.taken))]) H') : FnH Tryz.prog 19 #[.pointer (some ⟨q, 0, none⟩)] H K := by
  refine raft_Node_Take_fn q 0 ?_
  unfold raft_Node_Take_vc
  obtain ⟨o, ms, e, h1⟩ := nodB_open.1 h
  have hL := (lgu_ok (i := 1) h1 rfl).1
  have hix := hL.ok.index
  have hc := hn.commit
  have hll := hL.ok.len
  have hfl : ∀ (i m : Int), (fromX n.st i m).length ≤ 100000 := fun i m => by
    unfold fromX
    split
    · simp
    · rw [List.length_take, List.length_drop]; omega
  refine ⟨_, h1.cell 0 rfl rfl, ptrm_intro rfl (snapshot10_spec (i := 1) h1 rfl ⟨_, _, _, rfl, _, h1.cell 0 rfl rfl, br_intro (fun w => ?_) (fun w => ?_)⟩)⟩
  · have w := of_decide_eq_true w
    have tk : n.takeL = [(n.st.snapped, n.st.index, n.st.data)] ++ (if n.st.index < n.commit then fromX n.st (n.st.index + 1) (n.commit - n.st.index) else []) := by
      unfold Nd.takeL; rw [if_pos w, if_pos w]
    have tt : n.took = { n with taken := maxI n.st.index n.commit } := by unfold Nd.took; rw [if_pos w]
    refine h1.new fun q2 H2 h2 => ?_
    have h3 : HL.Holds (ownE ⟨none, 0, 0⟩ [] :: blk q2 (.cells #[.int .i64 n.st.snapped, .int .i64 n.st.index, .string n.st.data] 51 (0, 0)) :: (nodL q c d size s bs n o ms ++ ro A :: cs)) H2 := h2.own_nil 51 3
    have hx : CellsAt H2 (some ⟨q2, 0, none⟩) (eE (n.st.snapped, n.st.index, n.st.data)) := ((gLit q2 (n.st.snapped, n.st.index, n.st.data)).give _ (h2.get 0 rfl)).cells
    refine Holds.append (s := ⟨none, 0, 0⟩) okEn okEn.under h3 hx rfl rfl (by show 0 + 1 ≤ _; decide) fun l1 H3 h4 n4 => ⟨l1, rfl, ?_⟩
    have h5 : HL.Holds (ownE l1 [(n.st.snapped, n.st.index, n.st.data)] :: (nodL q c d size s bs n o ms ++ ro A :: cs)) H3 := by
      have := h4.swap.tail
      exact this
    refine h5.store 1 rfl (by simp) fun H4 h6 => ?_
    have h6 : HL.Holds (ownE l1 [(n.st.snapped, n.st.index, n.st.data)] :: (nodL q c d size s bs { n with taken := n.st.index } o ms ++ ro A :: cs)) H4 := h6
    refine ⟨_, h6.cell 1 rfl rfl, _, h6.cell 1 rfl rfl, br_intro (fun y => ?_) (fun y => ?_)⟩
    · have y : n.st.index < n.commit := of_decide_eq_true y
      refine ⟨_, h6.cell 1 rfl rfl, ptrm_intro rfl ⟨_, h6.cell 1 rfl rfl, _, h6.cell 1 rfl rfl, _, h6.cell 1 rfl rfl, ?_⟩⟩
      rw [wrap64_id (n := n.st.index + 1) (by omega) (by omega), wrap64_id (n := n.commit - n.st.index) (by omega) (by omega)]
      refine from10_spec (i := 2) h6 rfl (by omega) fun l2 H5 s5 h7 => ⟨l2, rfl, s5, ?_⟩
      have hf := hfl (n.st.index + 1) (n.commit - n.st.index)
      have hR : Recs eE H5 l2 (fromX n.st (n.st.index + 1) (n.commit - n.st.index)) := Own.recs eElen (by decide) (h7.own 0 rfl) (by omega)
      have hl2 := hR.len
      refine Holds.append okEn okEn.under h7.swap hR.cells (by rw [flat_len eElen, hl2]) (noTups_eE _) (by rw [n4]; show 0 + 1 + l2.n ≤ _; omega) fun l3 H6 h8 n8 => ⟨l3, rfl, ?_⟩
      have h9 : HL.Holds (ownE l3 n.takeL :: (nodL q c d size s bs { n with taken := n.st.index } o ms ++ ro A :: cs)) H6 := by
        rw [tk, if_pos y]
        have := h8.swap.tail
        have ef : ∀ x : En, [x].flatMap eE ++ (fromX n.st (n.st.index + 1) (n.commit - n.st.index)).flatMap eE = ([x] ++ fromX n.st (n.st.index + 1) (n.commit - n.st.index)).flatMap eE := fun x => by rw [List.flatMap_append]
        rw [ef] at this
        exact this
      refine ⟨_, h9.cell 1 rfl rfl, h9.store 1 rfl (by simp) fun H7 h10 => kk l3 H7 ?_⟩
      have h11 : HL.Holds (ownE l3 n.takeL :: (nodL q c d size s bs n.took o ms ++ ro A :: cs)) H7 := by
        rw [tt]
        have em : maxI n.st.index n.commit = n.commit := if_pos y
        rw [em]; exact h10
      exact ((nodB_open (n := n.took)).2 ⟨o, ms, e, h11.perm List.perm_middle.symm⟩).swap
    · have y : ¬ n.st.index < n.commit := of_decide_eq_false y
      refine kk l1 H4 ?_
      have h11 : HL.Holds (ownE l1 n.takeL :: (nodL q c d size s bs n.took o ms ++ ro A :: cs)) H4 := by
        rw [tt, tk, if_neg y, List.append_nil]
        have em : maxI n.st.index n.commit = n.st.index := if_neg y
        rw [em]; exact h6
      exact ((nodB_open (n := n.took)).2 ⟨o, ms, e, h11.perm List.perm_middle.symm⟩).swap
  · have w := of_decide_eq_false w
    have tk : n.takeL = (if n.taken < n.commit then fromX n.st (n.taken + 1) (n.commit - n.taken) else []) := by
      unfold Nd.takeL; rw [if_neg w, if_neg w]; rfl
    have tt : n.took = { n with taken := maxI n.taken n.commit } := by unfold Nd.took; rw [if_neg w]
    refine ⟨_, h1.cell 0 rfl rfl, _, h1.cell 0 rfl rfl, br_intro (fun y => ?_) (fun y => ?_)⟩
    · have y : n.taken < n.commit := of_decide_eq_true y
      refine ⟨_, h1.cell 0 rfl rfl, ptrm_intro rfl ⟨_, h1.cell 0 rfl rfl, _, h1.cell 0 rfl rfl, _, h1.cell 0 rfl rfl, ?_⟩⟩
      rw [wrap64_id (n := n.taken + 1) (by omega) (by omega), wrap64_id (n := n.commit - n.taken) (by omega) (by omega)]
      refine from10_spec (i := 1) h1 rfl (by omega) fun l2 H5 s5 h7 => ⟨l2, rfl, s5, ?_⟩
      have hf := hfl (n.taken + 1) (n.commit - n.taken)
      have hR : Recs eE H5 l2 (fromX n.st (n.taken + 1) (n.commit - n.taken)) := Own.recs eElen (by decide) (h7.own 0 rfl) (by omega)
      have hl2 := hR.len
      refine Holds.append (s := ⟨none, 0, 0⟩) okEn okEn.under (h7.own_nil 51 3) hR.cells (by rw [flat_len eElen, hl2]) (noTups_eE _) (by show 0 + l2.n ≤ _; omega) fun l3 H6 h8 n8 => ⟨l3, rfl, ?_⟩
      have h9 : HL.Holds (ownE l3 n.takeL :: (nodL q c d size s bs n o ms ++ ro A :: cs)) H6 := by
        rw [tk, if_pos y]
        exact h8.swap.tail
      refine ⟨_, h9.cell 1 rfl rfl, h9.store 1 rfl (by simp) fun H7 h10 => kk l3 H7 ?_⟩
      have h11 : HL.Holds (ownE l3 n.takeL :: (nodL q c d size s bs n.took o ms ++ ro A :: cs)) H7 := by
        rw [tt]
        have em : maxI n.taken n.commit = n.commit := if_pos y
        rw [em]; exact h10
      exact ((nodB_open (n := n.took)).2 ⟨o, ms, e, h11.perm List.perm_middle.symm⟩).swap
    · have y : ¬ n.taken < n.commit := of_decide_eq_false y
      refine kk ⟨none, 0, 0⟩ H ?_
      have h11 : HL.Holds (nodB A q c d size s bs n.took :: ro A :: cs) H := by
        rw [tt]
        have em : maxI n.taken n.commit = n.taken := if_neg y
        rw [em]; exact h
      rw [tk, if_neg y]
      exact h11.own_nil 51 3
end
end Go.Proofs.YthldclmeojkboaaGreatDoor
namespace Go.Proofs.YthldclmeojkboaaGreatDoor
open Go Go.HL
set_option maxHeartbeats 1600000
set_option maxRecDepth 10000
theorem okPt : ElemOK Tryz.prog 94 107 1 := ElemOK.of (by kernel_rfl)
theorem peersL_app {bs : List Nat} {ps : List Pr} (h : bs.length = ps.length) (b : Nat) (p : Pr) : peersL (bs ++ [b]) (ps ++ [p]) = peersL bs ps ++ [prC b p] := by
  unfold peersL; rw [List.zipWith_append h]; rfl
theorem newN_step {id : Int} {l : List Int} {wait : Int} {st : RS} {i : Int} {v : Int} (h0 : 0 ≤ i) (hv : l[i.toNat]? = some v) :
    newN id (l.take (i + 1).toNat) wait st = if v ≠ id then { newN id (l.take i.toNat) wait st with ps := (newN id (l.take i.toNat) wait st).ps ++ [⟨v, 0, 0, false⟩] } else newN id (l.take i.toNat) wait st := by
  unfold newN
  rw [take_step h0 hv, List.filter_append, List.map_append]
  by_cases e : v = id
  · rw [if_neg (by simpa using e)]
    subst e
    simp
  · rw [if_pos e]
    have : ([v].filter fun v => v != id) = [v] := by simp [e]
    rw [this]; rfl
section
variable {cs : List Chunk} {H A : Heap} {K : Value → Heap → Prop} {q c d : Nat} {size : Int} {s : Sl} {bs : List Nat} {n : Nd}
theorem index10_spec {s : Sl} {l : List Int} {v : Int} (h : Ints H s l) (k0 : v ∉ l → K (.int .i64 (-1)) H) (k1 : v ∈ l → ∀ i : Int, 0 ≤ i → K (.int .i64 i) H) : FnH Tryz.prog 112 #[.slice s.p s.n s.c, .int .i64 v] H K := by
  refine slices_Index_Lint_int_fn s v ?_
  unfold slices_Index_Lint_int_vc
  have hl := h.len
  have hb := h.big
  refine ⟨fun n H1 => H1 = H ∧ 0 ≤ n ∧ n ≤ s.n ∧ ∀ j, j < n.toNat → ¬ l[j]? = some v, fun n _ => (s.n - n).toNat, ⟨rfl, Int.le_refl _, by omega, fun j hj => by simp at hj⟩, ?_⟩
  rintro n H1 ⟨rfl, n0, n1, hn⟩
  refine br_intro (fun y => ?_) (fun y => ?_)
  · have y := of_decide_eq_true y
    obtain ⟨b, o, g1, g2, g3, g4⟩ := h.at_ n0 y
    have hnl : n.toNat < l.length := by omega
    have eg : l[n.toNat]? = some (l.getD n.toNat 0) := by rw [List.getElem?_eq_getElem hnl]; simp [List.getD, hnl]
    rw [wrap64_id (n := n + 1) (by omega) (by omega)]
    refine ⟨b, o, g1, g2, g3, _, g4, br_intro (fun z => ?_) (fun z => ⟨rfl, ⟨rfl, by omega, by omega, fun j hj e => ?_⟩, by dsimp only; omega⟩)⟩
    · have z : v = l.getD n.toNat 0 := by simpa using z
      exact k1 (List.mem_of_getElem? (by rw [z]; exact eg)) n n0
    · have z : ¬ v = l.getD n.toNat 0 := by simpa using z
      by_cases t : j = n.toNat
      · subst t
        rw [eg] at e
        exact z (Option.some.inj e).symm
      · exact hn j (by omega) e
  · have y := of_decide_eq_false y
    refine k0 fun hm => ?_
    obtain ⟨j, hj, e⟩ := List.mem_iff_getElem?.1 hm |>.elim fun j e => (⟨j, (List.getElem?_eq_some_iff.1 e).1, e⟩ : ∃ j, j < l.length ∧ l[j]? = some v)
    exact hn j (by omega) e
theorem contains10_spec {s : Sl} {l : List Int} {v : Int} (h : Ints H s l) (k : K (.bool (decide (v ∈ l))) H) : FnH Tryz.prog 71 #[.slice s.p s.n s.c, .int .i64 v] H K := by
  refine slices_Contains_Lint_int_fn s v ?_
  unfold slices_Contains_Lint_int_vc
  refine index10_spec h (fun e => ⟨_, rfl, ?_⟩) (fun e i i0 => ⟨_, rfl, ?_⟩)
  · rw [decide_eq_false (by decide)]; rw [decide_eq_false e] at k; exact k
  · rw [decide_eq_true (by omega)]; rw [decide_eq_true e] at k; exact k
theorem new10_spec {id wait : Int} {sv : Sl} {voters : List Int} {st : RS} (h : HL.Holds (lgu c d size st :: ro A :: cs) H) (hv : Ints A sv voters)
    (k0 : ¬ goodN id voters wait → ∀ H', HL.Holds (lgu c d size st :: ro A :: cs) H' → K (.tuple #[.pointer none, .int .i64 1]) H')
    (k1 : goodN id voters wait → ∀ q s bs H', HL.Holds (nodB A q c d size s bs (newN id voters wait st) :: ro A :: cs) H' → K (.tuple #[.pointer (some ⟨q, 0, none⟩), .int .i64 0]) H') : FnH Tryz.prog 28 #[.int .i64 id, .slice sv.p sv.n sv.c, .pointer (some ⟨c, 0, none⟩), .int .i64 wait] H K := by
  refine raft_New_fn id sv c 0 wait ?_
  unfold raft_New_vc
  have hvl := hv.len
  have hv0 := hv.sub (h.sub 1 rfl)
  refine br_intro (fun w => k0 (fun g => ?_) H h) (fun w => br_intro (fun w2 => k0 (fun g => ?_) H h) (fun w2 => contains10_spec hv0 ⟨_, rfl, br_intro (fun w3 => k0 (fun g => ?_) H h) (fun w3 => br_intro (fun w4 => k0 (fun g => ?_) H h) (fun w4 => br_intro (fun w5 => k0 (fun g => ?_) H h) (fun w5 => ?_)))⟩))
  · have w : (sv.n : Int) = 0 := by simpa using w
    have := g.1; omega
  · have w2 := of_decide_eq_true w2
    have := g.2.1; omega
  · rw [decide_eq_true g.2.2.1] at w3; cases w3
  · have w4 := of_decide_eq_true w4
    have := g.2.2.2.1.1; omega
  · have w5 := of_decide_eq_true w5
    have := g.2.2.2.1.2; omega
  have w : ¬ (sv.n : Int) = 0 := by simpa using w
  have w2 := of_decide_eq_false w2
  have w3 : id ∈ voters := of_decide_eq_true (by simpa using w3)
  have w4 := of_decide_eq_false w4
  have w5 := of_decide_eq_false w5
  refine snapshot10_spec (i := 0) h rfl ⟨_, _, _, rfl, h.new fun q H3 h3 => ?_⟩
  have h4 : HL.Holds (nodB A q c d size ⟨none, 0, 0⟩ [] (newN id [] wait st) :: ro A :: cs) H3 := by
    have h5 := ((h3.own_nil 107 1).own_nil 33 21)
    have h6 : HL.Holds (nodL q c d size ⟨none, 0, 0⟩ [] (newN id [] wait st) ⟨none, 0, 0⟩ [] ++ ro A :: cs) H3 := ((((h5.pull 1 rfl).pull 1 rfl).pull 3 rfl).pull 3 rfl)
    exact nodB_open.2 ⟨⟨none, 0, 0⟩, [], ⟨rfl, rfl, fun x hx => by cases hx⟩, h6⟩
  have drop : ∀ {n : Nd} {s : Sl} {bs : List Nat} {H' : Heap}, n.st = st → HL.Holds (nodB A q c d size s bs n :: ro A :: cs) H' → HL.Holds (lgu c d size st :: ro A :: cs) H' := fun {n s bs H'} en h' => by
    obtain ⟨o, ms, e, h1⟩ := nodB_open.1 h'
    rw [← en]
    have h2 : HL.Holds ((blk q (.cells (nArr c s n o) 96 (0, 0)) :: lgu c d size n.st :: own 33 21 o (ms.flatMap eM) :: own 107 1 s (bs.flatMap ePt) :: peersL bs n.ps) ++ ro A :: cs) H' := h1
    have h3 := h2.tail
    have h4 : HL.Holds (lgu c d size n.st :: ((own 33 21 o (ms.flatMap eM) :: own 107 1 s (bs.flatMap ePt) :: peersL bs n.ps) ++ (ro A :: cs))) H' := h3
    have h5 : HL.Holds (lgu c d size n.st :: ((ro A :: cs) ++ (own 33 21 o (ms.flatMap eM) :: own 107 1 s (bs.flatMap ePt) :: peersL bs n.ps))) H' := h4.perm (List.Perm.cons _ List.perm_append_comm)
    have h6 : HL.Holds ((lgu c d size n.st :: ro A :: cs) ++ (own 33 21 o (ms.flatMap eM) :: own 107 1 s (bs.flatMap ePt) :: peersL bs n.ps)) H' := h5
    obtain ⟨B, C, e, dd, p, -⟩ := Holds.app.1 h6
    subst e
    exact p.up HL.Sub.left
  refine ⟨fun i H' => 0 ≤ i ∧ i ≤ sv.n ∧ (∀ (j : Nat) (v : Int), j < i.toNat → voters[j]? = some v → (1 ≤ v ∧ v ≤ 7) ∧ ∀ u : Int, 0 < j → voters[j - 1]? = some u → u < v) ∧ ∃ s bs, HL.Holds (nodB A q c d size s bs (newN id (voters.take i.toNat) wait st) :: ro A :: cs) H', fun i _ => (sv.n - i).toNat, ⟨Int.le_refl _, by omega, fun j v hj => by simp at hj, ⟨none, 0, 0⟩, [], h4⟩, ?_⟩
  clear h3 h4 h hv0
  rintro i H4 ⟨i0, i1, hg, s, bs, h4⟩
  refine br_intro (fun y => ?_) (fun y => ?_)
  · have y := of_decide_eq_true y
    obtain ⟨b, o, g1, g2, g3, g4⟩ := (hv.sub (h4.sub 1 rfl)).at_ i0 y
    have hil : i.toNat < voters.length := by omega
    have eg : voters[i.toNat]? = some (voters.getD i.toNat 0) := by rw [List.getElem?_eq_getElem hil]; simp [List.getD, hil]
    generalize voters.getD i.toNat 0 = v at g4 eg
    refine ⟨b, o, g1, g2, g3, v, g4, ?_⟩
    have step : (1 ≤ v ∧ v ≤ 7) → (∀ u : Int, 0 < i.toNat → voters[i.toNat - 1]? = some u → u < v) → ∀ (j : Nat) (v : Int), j < (i + 1).toNat → voters[j]? = some v → (1 ≤ v ∧ v ≤ 7) ∧ ∀ u : Int, 0 < j → voters[j - 1]? = some u → u < v := fun a1 a2 j v' hj hv' => by
      by_cases t : j = i.toNat
      · subst t; rw [eg] at hv'; cases hv'; exact ⟨a1, a2⟩
      · exact hg j v' (by omega) hv'
    have notg : ¬ ((1 ≤ v ∧ v ≤ 7) ∧ ∀ u : Int, 0 < i.toNat → voters[i.toNat - 1]? = some u → u < v) → ¬ goodN id voters wait := fun a g => a (g.2.2.2.2 _ _ eg)
    have ns := newN_step (id := id) (wait := wait) (st := st) i0 eg
    refine br_intro (fun z1 => k0 (notg fun a => by have := of_decide_eq_true z1; omega) H4 (drop rfl h4)) (fun z1 => br_intro (fun z2 => k0 (notg fun a => by have := of_decide_eq_true z2; omega) H4 (drop rfl h4)) (fun z2 => ?_))
    have z1 := of_decide_eq_false z1
    have z2 := of_decide_eq_false z2
    have add : v ≠ id → ∀ X : Heap → Prop, (∀ s bs H8, HL.Holds (nodB A q c d size s bs (newN id (voters.take (i + 1).toNat) wait st) :: ro A :: cs) H8 → X H8) → ∃ l1 : Sl, cellH H4 ⟨q, 5, none⟩ = some (.slice l1.p l1.n l1.c) ∧ ∀ q4 : Nat, H4 q4 = none → letH (Heap.upd H4 q4 (.cells #[.int .i64 v, .int .i64 0, .int .i64 0, .bool false] 109 (0, 0))) fun H5 => ∀ q5 : Nat, H5 q5 = none → letH (Heap.upd H5 q5 (.cells #[.pointer (some ⟨q4, 0, none⟩)] 107 (0, 0))) fun H6 =>
        runH Tryz.prog (Builtin.append_ #[94, 94] 94 #[.slice l1.p l1.n l1.c, .slice (some ⟨q5, 0, none⟩) 1 1]) H6 fun r H7 => ∃ l2 : Sl, r = .slice l2.p l2.n l2.c ∧ (∃ u, cellH H7 ⟨q, 5, none⟩ = some u) ∧ frozenH H7 ⟨q, 5, none⟩ = false ∧ letH (Heap.set H7 ⟨q, 5, none⟩ (.slice l2.p l2.n l2.c)) fun H8 => X H8 := fun ne X hX => by
      obtain ⟨o', ms, e, h5⟩ := nodB_open.1 h4
      have hpl : (newN id (voters.take i.toNat) wait st).ps.length ≤ 7 := by
        show ((voters.take i.toNat).filter _ |>.map _).length ≤ 7
        rw [List.length_map]
        have := List.length_filter_le (fun v => v != id) (voters.take i.toNat)
        rw [List.length_take] at this
        omega
      have hsn : s.n = bs.length := by
        have := (h5.own 3 rfl).1
        rw [flat_len ePtlen, Nat.mul_one, Nat.mul_one] at this
        exact this.symm
      refine ⟨s, h5.cell 0 rfl rfl, h5.new fun q4 H5 h6 => ?_⟩
      have h7 : HL.Holds (own 107 1 s (bs.flatMap ePt) :: blk q4 _ :: blk q _ :: lgu c d size st :: own 33 21 o' (ms.flatMap eM) :: (peersL bs (newN id (voters.take i.toNat) wait st).ps ++ ro A :: cs)) H5 := h6.pull 4 rfl
      refine Holds.push okPt h7 (xs := ePt q4) (m := 1) rfl rfl (by rw [hsn, e.1]; omega) fun r H7 h8 n8 => ⟨r, rfl, h8.store 2 rfl (by simp) fun H8 h9 => hX r (bs ++ [q4]) H8 ?_⟩
      have ef : bs.flatMap ePt ++ ePt q4 = (bs ++ [q4]).flatMap ePt := by simp
      rw [ef] at h9
      rw [ns, if_pos ne]
      refine nodB_open.2 ⟨o', ms, ⟨by rw [List.length_append, e.1]; show _ = ((newN id (voters.take i.toNat) wait st).ps ++ [_]).length; rw [List.length_append]; rfl, e.2⟩, ?_⟩
      have h10 : HL.Holds (prC q4 ⟨v, 0, 0, false⟩ :: own 107 1 r ((bs ++ [q4]).flatMap ePt) :: blk q (.cells (nArr c r (newN id (voters.take i.toNat) wait st) o') 96 (0, 0)) :: lgu c d size st :: own 33 21 o' (ms.flatMap eM) :: (peersL bs (newN id (voters.take i.toNat) wait st).ps ++ ro A :: cs)) H8 := h9.swap
      have h11 : HL.Holds (prC q4 ⟨v, 0, 0, false⟩ :: ((blk q (.cells (nArr c r (newN id (voters.take i.toNat) wait st) o') 96 (0, 0)) :: lgu c d size st :: own 33 21 o' (ms.flatMap eM) :: own 107 1 r ((bs ++ [q4]).flatMap ePt) :: peersL bs (newN id (voters.take i.toNat) wait st).ps) ++ (ro A :: cs))) H8 := h10.perm (List.Perm.cons _ (by
        have := (List.perm_middle (a := own 107 1 r ((bs ++ [q4]).flatMap ePt)) (l₁ := [blk q (.cells (nArr c r (newN id (voters.take i.toNat) wait st) o') 96 (0, 0)), lgu c d size st, own 33 21 o' (ms.flatMap eM)]) (l₂ := peersL bs (newN id (voters.take i.toNat) wait st).ps ++ ro A :: cs)).symm
        exact this))
      have h12 := h11.perm List.perm_middle.symm
      have ep := peersL_app (bs := bs) (ps := (newN id (voters.take i.toNat) wait st).ps) e.1 q4 ⟨v, 0, 0, false⟩
      show HL.Holds (blk q (.cells (nArr c r (newN id (voters.take i.toNat) wait st) o') 96 (0, 0)) :: lgu c d size st :: own 33 21 o' (ms.flatMap eM) :: own 107 1 r ((bs ++ [q4]).flatMap ePt) :: (peersL (bs ++ [q4]) ((newN id (voters.take i.toNat) wait st).ps ++ [⟨v, 0, 0, false⟩]) ++ ro A :: cs)) H8
      rw [ep, List.append_assoc]
      exact h12
    have same : v = id → ∃ s bs, HL.Holds (nodB A q c d size s bs (newN id (voters.take (i + 1).toNat) wait st) :: ro A :: cs) H4 := fun ev => ⟨s, bs, by rw [ns, if_neg (by simpa using ev)]; exact h4⟩
    rw [wrap64_id (n := i + 1) (by omega) (by omega)]
    refine br_intro (fun z3 => ?_) (fun z3 => ?_)
    · have z3 := of_decide_eq_true z3
      rw [wrap64_id (n := i - 1) (by omega) (by omega)]
      obtain ⟨b', o', x1, x2, x3, x4⟩ := (hv.sub (h4.sub 1 rfl)).at_ (j := i - 1) (by omega) (by omega)
      have hil' : (i - 1).toNat < voters.length := by omega
      have eg' : voters[i.toNat - 1]? = some (voters.getD (i - 1).toNat 0) := by
        rw [show i.toNat - 1 = (i - 1).toNat by omega, List.getD_eq_getElem?_getD, List.getElem?_eq_getElem hil']; rfl
      refine ⟨b', o', x1, by omega, x3, _, x4, br_intro (fun z4 => k0 (notg fun a => ?_) H4 (drop rfl h4)) (fun z4 => ?_)⟩
      · have := a.2 _ (by omega) eg'
        have := of_decide_eq_true z4
        omega
      have z4 := of_decide_eq_false z4
      have hu : ∀ u : Int, 0 < i.toNat → voters[i.toNat - 1]? = some u → u < v := fun u _ e => by
        rw [eg'] at e; cases e; omega
      have hs := step (by omega) hu
      refine br_intro (fun z5 => ?_) (fun z5 => ?_)
      · exact add (bne_iff_ne.1 z5) _ fun s' bs' H8 x => ⟨rfl, ⟨by omega, by omega, hs, s', bs', x⟩, by dsimp only; omega⟩
      · obtain ⟨s', bs', x⟩ := same (bne_eq_false_iff_eq.1 z5)
        exact ⟨rfl, ⟨by omega, by omega, hs, s', bs', x⟩, by dsimp only; omega⟩
    · have z3 := of_decide_eq_false z3
      have hs := step (by omega) fun u h0 => by omega
      refine br_intro (fun z5 => ?_) (fun z5 => ?_)
      · exact add (bne_iff_ne.1 z5) _ fun s' bs' H8 x => ⟨rfl, ⟨by omega, by omega, hs, s', bs', x⟩, by dsimp only; omega⟩
      · obtain ⟨s', bs', x⟩ := same (bne_eq_false_iff_eq.1 z5)
        exact ⟨rfl, ⟨by omega, by omega, hs, s', bs', x⟩, by dsimp only; omega⟩
  · have y := of_decide_eq_false y
    have hall : voters.take i.toNat = voters := List.take_of_length_le (by omega)
    rw [hall] at h4
    exact k1 ⟨by omega, by omega, w3, by omega, fun j v hj => hg j v (by have := (List.getElem?_eq_some_iff.1 hj).1; omega) hj⟩ q s bs H4 h4
theorem again10_spec {id wait : Int} {sv : Sl} {voters : List Int} {st : RS} (h : HL.Holds (lgd d size st :: ro A :: cs) H) (hv : Ints A sv voters) (hg : goodN id voters wait)
    (k : ∀ q c s bs H', HL.Holds (nodB A q c d size s bs (newN id voters wait st) :: ro A :: cs) H' → K (.pointer (some ⟨q, 0, none⟩)) H') : FnH Tryz.prog 13 #[.pointer (some ⟨d, 0, none⟩), .int .i64 id, .slice sv.p sv.n sv.c, .int .i64 wait] H K := by
  refine logboomlaw10_again_fn d 0 id sv wait ?_
  unfold logboomlaw10_again_vc
  exact open10_spec h fun c H1 h1 => ⟨_, _, rfl, br_f rfl (br_f rfl (new10_spec h1 hv (fun ng => absurd hg ng) fun _ q s bs H2 h2 => ⟨_, _, rfl, br_f rfl (k q c s bs H2 h2)⟩))⟩
theorem node10_spec {id wait : Int} {sv : Sl} {voters : List Int} (h : HL.Holds (ro A :: cs) H) (hv : Ints A sv voters) (hg : goodN id voters wait)
    (k : ∀ q c d s bs H', HL.Holds (nodB A q c d 1000000 s bs (newN id voters wait st0) :: ro A :: cs) H' → K (.tuple #[.pointer (some ⟨q, 0, none⟩), .pointer (some ⟨d, 0, none⟩)]) H') : FnH Tryz.prog 9 #[.int .i64 id, .slice sv.p sv.n sv.c, .int .i64 wait] H K := by
  refine logboomlaw10_node_fn id sv wait ?_
  unfold logboomlaw10_node_vc
  exact dnew10_spec (by decide) h fun d H1 h1 => ⟨_, _, rfl, br_f rfl (br_f rfl (again10_spec h1 hv hg fun q c s bs H2 h2 => ⟨_, rfl, k q c d s bs H2 h2⟩))⟩
end
end Go.Proofs.YthldclmeojkboaaGreatDoor
namespace Go.Proofs.YthldclmeojkboaaGreatDoor
open Go Go.HL
set_option maxHeartbeats 3200000
set_option maxRecDepth 100000
section
abbrev xa0 : Nd := newN 1 [1] 10 st0
abbrev xa1 : Nd := (xa0.tick 1000000 0 3).said
abbrev xa2 : Nd := (xa1.tick 1000000 12 3).said
abbrev xa3 : Nd := (xa2.tick 1000000 13 3).said
abbrev xb0 : Nd := newN 1 [1, 2, 3] 10 st0
abbrev xb1 : Nd := (xb0.tick 1000000 0 0).said
abbrev xb2 : Nd := (xb1.tick 1000000 10 0).said
abbrev xbm : Mw := ⟨2, 2, 1, 0, 0, 0, 0, 0, 0, 0, 1, 0, 0, 0, 0, 0, ⟨#[]⟩, ⟨#[]⟩, ⟨none, 0, 0⟩, ⟨none, 0, 0⟩, ⟨none, 0, 0⟩⟩
abbrev xc0 : Nd := newN 2 [1, 2, 3] 10 st0
abbrev xcm (f t : Int) : Mw := ⟨1, f, 2, 0, 0, 0, 0, 0, 0, 0, t, 0, 0, 0, 0, 0, ⟨#[]⟩, ⟨#[]⟩, ⟨none, 0, 0⟩, ⟨none, 0, 0⟩, ⟨none, 0, 0⟩⟩
abbrev xc1 : Nd := (xc0.step 1000000 0 ((xcm 1 1).mg [])).said
abbrev xc2 : Nd := (xc1.step 1000000 0 ((xcm 3 1).mg [])).said
theorem fa1 : (xa0.tick 1000000 0 3).out.length = 0 ∧ xa1.st.l.length ≤ 99000 := by decide +kernel
theorem fa2 : (xa1.tick 1000000 12 3).out.length = 0 ∧ xa2.st.l.length ≤ 99000 := by decide +kernel
theorem fa3 : (xa2.tick 1000000 13 3).out.length = 0 ∧ xa3.role = 2 ∧ xa3.commit = 1 ∧ xa3.st.l.length ≤ 99000 := by decide +kernel
theorem fa4 : (xa3.propose 1000000 ⟨#[120]⟩).1 = 2 ∧ (xa3.propose 1000000 ⟨#[120]⟩).2.1 = 0 ∧ (xa3.propose 1000000 ⟨#[120]⟩).2.2.commit = 2 := by decide +kernel
theorem fb1 : (xb0.tick 1000000 0 0).out.length = 0 ∧ xb1.st.l.length ≤ 99000 := by decide +kernel
theorem fb2 : (xb1.tick 1000000 10 0).out.map (fun m => (m.kind, m.to)) = [(1, 2), (1, 3)] ∧ xb2.st.l.length ≤ 98000 := by decide +kernel
theorem fb3 : (xb2.step 1000000 11 (xbm.mg [])).out.map (fun m => (m.kind, m.ents.length)) = [(3, 1), (3, 1)] ∧ (xb2.step 1000000 11 (xbm.mg [])).role = 2 := by decide +kernel
theorem fc1 : (xc0.step 1000000 0 ((xcm 1 1).mg [])).out.map (fun m => m.err) = [0] ∧ xc1.st.l.length ≤ 98000 := by decide +kernel
theorem fc2 : (xc1.step 1000000 0 ((xcm 3 1).mg [])).out.map (fun m => m.err) = [19] ∧ xc2.st.l.length ≤ 98000 := by decide +kernel
theorem fc3 : (xc2.step 1000000 0 ((xcm 3 0).mg [])).out.map (fun m => m.err) = [13] := by decide +kernel
theorem new_ok {id wait : Int} {l : List Int} {st : RS} (hw : 1 ≤ wait ∧ wait ≤ 1000000) (hl : l.length ≤ 7) (hm : id ∈ l) (hL : Lg st) : NdOk (newN id l wait st) :=
  ⟨hw, by show (0 : Int) ≤ 0 ∧ (0 : Int) ≤ _; decide, by
    show ((l.filter fun v => v != id).map _).length ≤ 6
    rw [List.length_map]
    have h1 := List.length_filter_lt_length_iff_exists (p := fun v => v != id) (l := l) |>.2 ⟨id, hm, by simp⟩
    omega, fun p hp => by
    obtain ⟨v, -, rfl⟩ := List.mem_map.1 hp
    exact ⟨Int.le_refl _, by show (0 : Int) ≤ _; decide, Int.le_refl _, by show (0 : Int) ≤ _; decide⟩, by
    have := hL.ok.index
    show 0 ≤ st.index ∧ st.index ≤ _
    omega⟩
theorem tick_said {size : Int} {n : Nd} {now draw : Int} (h : NdOk n) (hd : i64B draw) (hL : Lg n.st) (hL' : Lg (n.tick size now draw).said.st) : NdOk (n.tick size now draw).said := NdOk.of (h.tick hd hL hL') rfl rfl rfl rfl
theorem step_said {size : Int} {n : Nd} {now : Int} {m : Mg} (h : NdOk n) (hL : Lg n.st) (hm : i64B m.index) (hml : m.kind = 3 → m.ents.length ≤ 1000) (hL' : Lg (n.step size now m).said.st) : NdOk (n.step size now m).said := NdOk.of (h.step hL hm hml hL') rfl rfl rfl rfl
theorem propose_said {size : Int} {n : Nd} {data : ByteArray} (h : NdOk n) (hL' : Lg (n.propose size data).2.2.said.st) : NdOk (n.propose size data).2.2.said := NdOk.of (h.propose hL') rfl rfl rfl rfl
theorem said_out (n : Nd) : n.said.out = [] := rfl
theorem said_len (n : Nd) : n.said.out.length ≤ 97000 := Nat.zero_le _
theorem two_of {α : Type} {l : List α} (h : l.length = 2) : ∃ x y, l = [x, y] := by
  match l, h with
  | [x, y], _ => exact ⟨x, y, rfl⟩
theorem one_of {α : Type} {l : List α} (h : l.length = 1) : ∃ x, l = [x] := by
  match l, h with
  | [x], _ => exact ⟨x, rfl⟩
theorem lg0 : Lg st0 := ⟨StOk.zero, UpS.zero⟩
theorem good1 : goodN 1 [1] 10 := ⟨by decide, by decide, by decide, by decide, fun i v h => by
  match i, h with
  | 0, h => cases h; exact ⟨by decide, fun u h0 => absurd h0 (by decide)⟩
  | i + 1, h => simp at h⟩
theorem goodV3 : goodV [1, 2, 3] := fun i v h => by
  match i, h with
  | 0, h => cases h; exact ⟨by decide, fun u h0 => absurd h0 (by decide)⟩
  | 1, h => cases h; exact ⟨by decide, fun u _ hu => by cases hu; decide⟩
  | 2, h => cases h; exact ⟨by decide, fun u _ hu => by cases hu; decide⟩
  | i + 3, h => simp at h
theorem good3 {id : Int} (h : id ∈ ([1, 2, 3] : List Int)) : goodN id [1, 2, 3] 10 := ⟨by decide, by decide, h, by decide, goodV3⟩
end
section
variable {cs : List Chunk} {H A : Heap} {K : Value → Heap → Prop} {q c d : Nat} {size : Int} {s : Sl} {bs : List Nat} {n : Nd}
theorem pick10_spec {c n : Int} (hn : n ≠ 0) (k : K (.int .i64 (pickI c n)) H) : FnH Tryz.prog 10 #[.int .i64 c, .int .i64 n] H K := by
  apply logboomlaw10_pick_fn
  exact pick_formula hn k
theorem lit_store {l : List Int} {f : Nat → Heap → Prop} (h : HL.Holds (ro A :: cs) H) (hl : l.length ≤ 1000) (k : ∀ b A' H', HL.Sub A A' → Ints A' ⟨some ⟨b, 0, none⟩, l.length, l.length⟩ l → HL.Holds (ro A' :: cs) H' → f b H') :
    ∀ q, H q = none → letH (H.upd q (.cells (l.map (Value.int .i64)).toArray 3 (0, 0))) (f q) :=
  h.new fun b H1 h1 => by
    obtain ⟨A', sA, hb, h2⟩ := into_store h1 (blk_mono _ _)
    exact k b A' H1 sA (Holds.litInts (cs := []) (T := 3) (q := b) (l := l) ⟨A', Heap.emp, by funext x; simp [Heap.join, Heap.emp], fun _ _ h => (nomatch (show Heap.emp _ = some _ from h)), hb, True.intro⟩ (by omega)) h2
theorem ms_len {A : Heap} {o : Sl} {ms : List Mo} {out : List Mg} (h : HL.Holds (own 33 21 o (ms.flatMap eM) :: cs) H) (e : ms.map Prod.fst = out) : o.n = out.length := by
  have := (h.own 0 rfl).1
  rw [flat_len eMlen] at this
  have := (Nat.eq_of_mul_eq_mul_right (by decide) this).symm
  rw [this, ← e, List.length_map]
theorem shown10_spec (h : HL.Holds (ro A :: cs) H) (k : ∀ A' H', HL.Sub A A' → HL.Holds (ro A' :: cs) H' → K (.bool true) H') : FnH Tryz.prog 8 #[] H K := by
  refine logboomlaw10_shown_fn ?_
  unfold logboomlaw10_shown_vc
  refine lit_store (l := [1]) h (by decide) fun b1 A1 H1 s1 i1 h1 => ?_
  refine node10_spec (sv := ⟨some ⟨b1, 0, none⟩, 1, 1⟩) h1 i1 good1 fun qa ca da sa bsa H2 h2 => ⟨_, _, rfl, ?_⟩
  refine lit_store (l := [1, 2, 3]) h2.swap (by decide) fun b2 A2 H3 s2 i2 h3 => ?_
  refine node10_spec (sv := ⟨some ⟨b2, 0, none⟩, 3, 3⟩) h3 i2 (good3 (by decide)) fun qb cb db sb bsb H4 h4 => ⟨_, _, rfl, ?_⟩
  refine lit_store (l := [1, 2, 3]) h4.swap (by decide) fun b3 A3 H5 s3 i3 h5 => ?_
  refine node10_spec (sv := ⟨some ⟨b3, 0, none⟩, 3, 3⟩) h5 i3 (good3 (by decide)) fun qc cc dc sc bsc H6 h6 => ⟨_, _, rfl, br_f rfl (br_f rfl (br_f rfl ?_))⟩
  have sA := s1.trans (s2.trans s3)
  have h7 : HL.Holds (nodB A3 qa ca da 1000000 sa bsa xa0 :: ro A3 :: nodB A3 qb cb db 1000000 sb bsb xb0 :: nodB A3 qc cc dc 1000000 sc bsc xc0 :: cs) H6 := by
    have x1 : HL.Holds (nodB A3 qb cb db 1000000 sb bsb xb0 :: nodB A3 qc cc dc 1000000 sc bsc xc0 :: ro A3 :: nodB A1 qa ca da 1000000 sa bsa xa0 :: cs) H6 := nodB_sub' s3 (h6.pull 2 rfl)
    have x2 : HL.Holds (nodB A3 qa ca da 1000000 sa bsa xa0 :: nodB A3 qb cb db 1000000 sb bsb xb0 :: nodB A3 qc cc dc 1000000 sc bsc xc0 :: ro A3 :: cs) H6 := nodB_sub' (s2.trans s3) (x1.pull 3 rfl)
    exact ((x2.pull 3 rfl)).swap
  have oa0 : NdOk xa0 := new_ok (by decide) (by decide) (by decide) lg0
  refine tick10_spec h7 oa0 ⟨by decide, by decide⟩ (by decide) (by decide) fun A4 o1 ms1 H7 s4 e1 m1 h8 => ⟨o1, rfl, ?_⟩
  have l1 := (ms_len (A := A4) h8 e1).trans fa1.1
  have h9 : HL.Holds (nodB A4 qa ca da 1000000 sa bsa xa1 :: ro A4 :: nodB A3 qb cb db 1000000 sb bsb xb0 :: nodB A3 qc cc dc 1000000 sc bsc xc0 :: cs) H7 := h8.tail
  have oa1 : NdOk xa1 := tick_said oa0 ⟨by decide, by decide⟩ lg0 (nodB_lg (i := 0) h9 rfl)
  refine tick10_spec h9 oa1 ⟨by decide, by decide⟩ (said_len _) fa1.2 fun A5 o2 ms2 H8 s5 e2 m2 h10 => ⟨o2, rfl, ?_⟩
  have l2 := (ms_len (A := A5) h10 e2).trans fa2.1
  have h11 : HL.Holds (nodB A5 qa ca da 1000000 sa bsa xa2 :: ro A5 :: nodB A3 qb cb db 1000000 sb bsb xb0 :: nodB A3 qc cc dc 1000000 sc bsc xc0 :: cs) H8 := h10.tail
  have oa2 : NdOk xa2 := tick_said oa1 ⟨by decide, by decide⟩ (nodB_lg (i := 0) h9 rfl) (nodB_lg (i := 0) h11 rfl)
  refine tick10_spec h11 oa2 ⟨by decide, by decide⟩ (said_len _) fa2.2 fun A6 o3 ms3 H9 s6 e3 m3 h12 => ⟨o3, rfl, br_f ?_ ?_⟩
  · have l3 := (ms_len (A := A6) h12 e3).trans fa3.1
    rw [l1, l2, l3]; rfl
  have h13 : HL.Holds (nodB A6 qa ca da 1000000 sa bsa xa3 :: ro A6 :: nodB A3 qb cb db 1000000 sb bsb xb0 :: nodB A3 qc cc dc 1000000 sc bsc xc0 :: cs) H9 := h12.tail
  have oa3 : NdOk xa3 := tick_said oa2 ⟨by decide, by decide⟩ (nodB_lg (i := 0) h11 rfl) (nodB_lg (i := 0) h13 rfl)
  refine leads10_spec (i := 0) h13 rfl ⟨_, rfl, br_f (by rw [fa3.2.1]; rfl) (commit10_spec (i := 0) h13 rfl ⟨_, rfl, br_f (by rw [fa3.2.2.1]; rfl) ?_⟩)⟩
  refine propose10_spec h13 oa3 (said_out _) fa3.2.2.2 fun A7 o4 ms4 H10 s7 e4 m4 h14 => ⟨_, o4, _, rfl, ?_⟩
  have s37 := s4.trans (s5.trans (s6.trans s7))
  have h15 : HL.Holds (nodB A7 qb cb db 1000000 sb bsb xb0 :: ro A7 :: nodB A7 qa ca da 1000000 sa bsa (xa3.propose 1000000 ⟨#[120]⟩).2.2.said :: nodB A3 qc cc dc 1000000 sc bsc xc0 :: cs) H10 := by
    have x1 : HL.Holds (nodB A7 qb cb db 1000000 sb bsb xb0 :: nodB A7 qa ca da 1000000 sa bsa (xa3.propose 1000000 ⟨#[120]⟩).2.2.said :: ro A7 :: nodB A3 qc cc dc 1000000 sc bsc xc0 :: cs) H10 := nodB_sub' s37 (h14.tail.pull 2 rfl)
    exact (x1.pull 2 rfl).swap
  have ob0 : NdOk xb0 := new_ok (by decide) (by decide) (by decide) lg0
  refine tick10_spec h15 ob0 ⟨by decide, by decide⟩ (by decide) (by decide) fun A8 o5 ms5 H11 s8 e5 m5 h16 => ⟨o5, rfl, ?_⟩
  have l5 := (ms_len (A := A8) h16 e5).trans fb1.1
  have h17 : HL.Holds (nodB A8 qb cb db 1000000 sb bsb xb1 :: ro A8 :: nodB A7 qa ca da 1000000 sa bsa (xa3.propose 1000000 ⟨#[120]⟩).2.2.said :: nodB A3 qc cc dc 1000000 sc bsc xc0 :: cs) H11 := h16.tail
  have ob1 : NdOk xb1 := tick_said ob0 ⟨by decide, by decide⟩ lg0 (nodB_lg (i := 0) h17 rfl)
  refine tick10_spec h17 ob1 ⟨by decide, by decide⟩ (said_len _) fb1.2 fun A9 o6 ms6 H12 s9 e6 m6 h18 => ⟨o6, rfl, ?_⟩
  have h19 : HL.Holds (nodB A9 qb cb db 1000000 sb bsb xb2 :: ro A9 :: own 33 21 o6 (ms6.flatMap eM) :: nodB A7 qa ca da 1000000 sa bsa (xa3.propose 1000000 ⟨#[120]⟩).2.2.said :: nodB A3 qc cc dc 1000000 sc bsc xc0 :: cs) H12 := h18.down 2
  have ob2 : NdOk xb2 := tick_said ob1 ⟨by decide, by decide⟩ (nodB_lg (i := 0) h17 rfl) (nodB_lg (i := 0) h19 rfl)
  refine step10_spec (m := xbm) (l := []) h19 (by constructor <;> exact ⟨by decide, by decide⟩) (Recs.nil _) (fun z => by cases z) ob2 (said_out _) (by have := fb2.2; omega) fun A10 o7 ms7 H13 s10 e7 m7 h20 => ⟨o7, rfl, ?_⟩
  refine br_f (by rw [fa4.1]; rfl) (br_f (by rw [fa4.2.1]; rfl) ?_)
  have i_a : (own 33 21 o7 (ms7.flatMap eM) :: nodB A10 qb cb db 1000000 sb bsb (xb2.step 1000000 11 (xbm.mg [])).said :: ro A10 :: own 33 21 o6 (ms6.flatMap eM) :: nodB A7 qa ca da 1000000 sa bsa (xa3.propose 1000000 ⟨#[120]⟩).2.2.said :: nodB A3 qc cc dc 1000000 sc bsc xc0 :: cs)[4]? = some (nodB A7 qa ca da 1000000 sa bsa (xa3.propose 1000000 ⟨#[120]⟩).2.2.said) := rfl
  refine commit10_spec (i := 4) h20 i_a ⟨_, rfl, br_f (by show ((xa3.propose 1000000 ⟨#[120]⟩).2.2.commit != 2) = false; rw [fa4.2.2]; rfl) (br_f (by rw [l5]; rfl) ?_)⟩
  have h21 := h20.pull 3 rfl
  have l6 := ms_len (A := A9) h21 e6
  have l7 := ms_len (A := A9) h20 e7
  have f6 := fb2.1
  have f7 := fb3.1
  rw [← e6] at f6 l6
  rw [← e7] at f7 l7
  obtain ⟨x1, x2, rfl⟩ := two_of (l := ms6) (by have := congrArg List.length f6; rw [List.length_map, List.length_map] at this; exact this)
  obtain ⟨y1, y2, rfl⟩ := two_of (l := ms7) (by have := congrArg List.length f7; rw [List.length_map, List.length_map] at this; exact this)
  have l6 : o6.n = 2 := l6
  have l7 : o7.n = 2 := l7
  simp only [List.map_cons, List.map_nil, List.cons.injEq, Prod.mk.injEq, and_true] at f6 f7
  have R6 : Recs eM H13 o6 [x1, x2] := Own.recs eMlen (by decide) (h21.own 0 rfl) (by show 2 ≤ _; decide)
  have R7 : Recs eM H13 o7 [y1, y2] := Own.recs eMlen (by decide) (h20.own 0 rfl) (by show 2 ≤ _; decide)
  have hy := m7 y1 (List.mem_cons_self ..)
  obtain ⟨p1, p2, xx, p3, p4, p5⟩ := R6.at_ eMlen (by decide) (j := 0) (by decide) (by rw [l6]; decide)
  cases p4
  obtain ⟨t1, t2, xx, t3, t4, t5⟩ := R6.at_ eMlen (by decide) (j := 1) (by decide) (by rw [l6]; decide)
  cases t4
  obtain ⟨u1, u2, xx, u3, u4, u5⟩ := R7.at_ eMlen (by decide) (j := 0) (by decide) (by rw [l7]; decide)
  cases u4
  refine br_f (by rw [l6]; rfl) ⟨p1, p2, p3, by decide, by rw [l6]; decide, _, p5 0 _ rfl, br_f (by rw [f6.1.1]; rfl) ⟨t1, t2, t3, by decide, by rw [l6]; decide, _, t5 2 _ rfl, br_f (by rw [f6.2.2]; rfl) (br_f (by rw [l7]; rfl) ?_)⟩⟩
  refine ⟨u1, u2, u3, by decide, by rw [l7]; decide, _, u5 0 _ rfl, br_f (by rw [f7.1.1]; rfl) ⟨u1, u2, u3, by decide, by rw [l7]; decide, y1.2, u5 19 _ rfl, br_f (by rw [hy.len, f7.1.2]; rfl) ?_⟩⟩
  refine leads10_spec (i := 1) h20 rfl ⟨_, rfl, br_f (by show (!((xb2.step 1000000 11 (xbm.mg [])).role == 2)) = false; rw [fb3.2]; rfl) ?_⟩
  have s310 := s37.trans (s8.trans (s9.trans s10))
  have h22 : HL.Holds (nodB A10 qc cc dc 1000000 sc bsc xc0 :: ro A10 :: cs) H13 := by
    have z1 := h20.tail.tail
    have z2 : HL.Holds (own 33 21 o6 ([x1, x2].flatMap eM) :: ro A10 :: nodB A7 qa ca da 1000000 sa bsa (xa3.propose 1000000 ⟨#[120]⟩).2.2.said :: nodB A3 qc cc dc 1000000 sc bsc xc0 :: cs) H13 := z1.swap
    have z3 : HL.Holds (nodB A7 qa ca da 1000000 sa bsa (xa3.propose 1000000 ⟨#[120]⟩).2.2.said :: ro A10 :: nodB A3 qc cc dc 1000000 sc bsc xc0 :: cs) H13 := z2.tail.swap
    exact nodB_sub' s310 z3.tail.swap
  have oc0 : NdOk xc0 := new_ok (by decide) (by decide) (by decide) lg0
  refine step10_spec (m := xcm 1 1) (l := []) h22 (by constructor <;> exact ⟨by decide, by decide⟩) (Recs.nil _) (fun z => by cases z) oc0 rfl (by decide) fun A11 o9 ms9 H14 s11 e9 m9 h23 => ⟨o9, rfl, ?_⟩
  have h24 : HL.Holds (nodB A11 qc cc dc 1000000 sc bsc xc1 :: ro A11 :: own 33 21 o9 (ms9.flatMap eM) :: cs) H14 := h23.down 2
  have oc1 : NdOk xc1 := step_said oc0 lg0 ⟨by decide, by decide⟩ (fun _ => by decide) (nodB_lg (i := 0) h24 rfl)
  refine step10_spec (m := xcm 3 1) (l := []) h24 (by constructor <;> exact ⟨by decide, by decide⟩) (Recs.nil _) (fun z => by cases z) oc1 (said_out _) (by have := fc1.2; omega) fun A12 o10 ms10 H15 s12 e10 m10 h25 => ⟨o10, rfl, ?_⟩
  have h26 : HL.Holds (nodB A12 qc cc dc 1000000 sc bsc xc2 :: ro A12 :: own 33 21 o10 (ms10.flatMap eM) :: own 33 21 o9 (ms9.flatMap eM) :: cs) H15 := h25.down 2
  have oc2 : NdOk xc2 := step_said oc1 (nodB_lg (i := 0) h24 rfl) ⟨by decide, by decide⟩ (fun _ => by decide) (nodB_lg (i := 0) h26 rfl)
  refine step10_spec (m := xcm 3 0) (l := []) h26 (by constructor <;> exact ⟨by decide, by decide⟩) (Recs.nil _) (fun z => by cases z) oc2 (said_out _) (by have := fc2.2; omega) fun A13 o11 ms11 H16 s13 e11 m11 h27 => ⟨o11, rfl, ?_⟩
  have h28 := h27.pull 3 rfl
  have h29 := h27.pull 4 rfl
  have l9 := ms_len (A := A9) h29 e9
  have l10 := ms_len (A := A9) h28 e10
  have l11 := ms_len (A := A9) h27 e11
  have f9 := fc1.1
  have f10 := fc2.1
  have f11 := fc3
  rw [← e9] at f9 l9
  rw [← e10] at f10 l10
  rw [← e11] at f11 l11
  obtain ⟨x9, rfl⟩ := one_of (l := ms9) (by have := congrArg List.length f9; rw [List.length_map, List.length_map] at this; exact this)
  obtain ⟨x10, rfl⟩ := one_of (l := ms10) (by have := congrArg List.length f10; rw [List.length_map, List.length_map] at this; exact this)
  obtain ⟨x11, rfl⟩ := one_of (l := ms11) (by have := congrArg List.length f11; rw [List.length_map, List.length_map] at this; exact this)
  have l9 : o9.n = 1 := l9
  have l10 : o10.n = 1 := l10
  have l11 : o11.n = 1 := l11
  simp only [List.map_cons, List.map_nil, List.cons.injEq, and_true] at f9 f10 f11
  have R9 : Recs eM H16 o9 [x9] := Own.recs eMlen (by decide) (h29.own 0 rfl) (by show 1 ≤ _; decide)
  have R10 : Recs eM H16 o10 [x10] := Own.recs eMlen (by decide) (h28.own 0 rfl) (by show 1 ≤ _; decide)
  have R11 : Recs eM H16 o11 [x11] := Own.recs eMlen (by decide) (h27.own 0 rfl) (by show 1 ≤ _; decide)
  obtain ⟨p1, p2, xx, p3, p4, p5⟩ := R9.at_ eMlen (by decide) (j := 0) (by decide) (by rw [l9]; decide)
  cases p4
  obtain ⟨t1, t2, xx, t3, t4, t5⟩ := R10.at_ eMlen (by decide) (j := 0) (by decide) (by rw [l10]; decide)
  cases t4
  obtain ⟨u1, u2, xx, u3, u4, u5⟩ := R11.at_ eMlen (by decide) (j := 0) (by decide) (by rw [l11]; decide)
  cases u4
  refine br_t (by rw [l9]; rfl) ⟨p1, p2, p3, by decide, by rw [l9]; decide, _, p5 15 _ rfl, br_t (by rw [f9]; rfl) (br_t (by rw [l10]; rfl) ⟨t1, t2, t3, by decide, by rw [l10]; decide, _, t5 15 _ rfl, br_t (by rw [f10]; rfl) (br_t (by rw [l11]; rfl) ⟨u1, u2, u3, by decide, by rw [l11]; decide, _, u5 15 _ rfl, ?_⟩)⟩)⟩
  rw [f11]
  have z1 : HL.Holds (ro A13 :: own 33 21 o10 ([x10].flatMap eM) :: own 33 21 o9 ([x9].flatMap eM) :: cs) H16 := h27.tail.tail
  have z2 : HL.Holds (ro A13 :: own 33 21 o9 ([x9].flatMap eM) :: cs) H16 := z1.swap.tail
  refine k A13 H16 (sA.trans (s310.trans (s11.trans (s12.trans s13)))) ?_
  have z3 : HL.Holds (own 33 21 o9 ([x9].flatMap eM) :: ro A13 :: cs) H16 := z2.swap
  exact z3.tail
end
end Go.Proofs.YthldclmeojkboaaGreatDoor
namespace Go.Proofs.YthldclmeojkboaaGreatDoor
open Go Go.HL
set_option maxHeartbeats 1600000
set_option maxRecDepth 10000
def Voted (a b : RS) : Prop := a.term ≤ b.term ∧ (b.term = a.term → a.vote ≠ 0 → b.vote = a.vote)
theorem Voted.refl (a : RS) : Voted a a := ⟨Int.le_refl _, fun _ _ => rfl⟩
theorem Voted.trans {a b c : RS} (h : Voted a b) (g : Voted b c) : Voted a c := ⟨Int.le_trans h.1 g.1, fun e n => by
  have h1 := h.1
  have g1 := g.1
  have e1 : b.term = a.term := by omega
  have e2 := h.2 e1 n
  rw [← e2]
  exact g.2 (by omega) (by rw [e2]; exact n)⟩
theorem Voted.of {a b : RS} (h1 : b.term = a.term) (h2 : b.vote = a.vote) : Voted a b := ⟨by omega, fun _ _ => h2⟩
theorem turn_voted (size : Int) (st : RS) (t v : Int) : Voted st (turnS size st t v).2 := by
  unfold turnS
  split
  · exact Voted.refl _
  · split
    · exact Voted.refl _
    · rename_i q
      split
      · exact Voted.refl _
      · split
        · exact Voted.refl _
        · rename_i q2
          split
          · exact Voted.refl _
          · refine ⟨by show st.term ≤ t; omega, fun e n => ?_⟩
            exact absurd ⟨e, n⟩ q2
theorem turn_done {size : Int} {st : RS} {t v : Int} (h : (turnS size st t v).1 = 0) : (turnS size st t v).2.term = t ∧ (turnS size st t v).2.vote = v := by
  unfold turnS at h ⊢
  split
  · rename_i q; rw [if_pos q] at h; cases h
  · rename_i q; rw [if_neg q] at h
    split
    · rename_i q2; rw [if_pos q2] at h; cases h
    · rename_i q2; rw [if_neg q2] at h
      split
      · rename_i q3; exact ⟨q3.1.symm, q3.2.symm⟩
      · rename_i q3; rw [if_neg q3] at h
        split
        · rename_i q4; rw [if_pos q4] at h; cases h
        · rename_i q4; rw [if_neg q4] at h
          split
          · rename_i q5; rw [if_pos q5] at h; cases h
          · exact ⟨rfl, rfl⟩
theorem put_same (size : Int) (st : RS) (a : Int) (l : List En) : (putS size st a l).2.term = st.term ∧ (putS size st a l).2.vote = st.vote ∧ (putS size st a l).2.index = st.index ∧ (putS size st a l).2.snapped = st.snapped ∧ (putS size st a l).2.data = st.data ∧ (putS size st a l).2.l.length ≤ st.l.length + l.length := by
  unfold putS putX
  split
  · exact ⟨rfl, rfl, rfl, rfl, rfl, Nat.le_add_right _ _⟩
  · split
    · exact ⟨rfl, rfl, rfl, rfl, rfl, Nat.le_add_right _ _⟩
    · split
      · exact ⟨rfl, rfl, rfl, rfl, rfl, Nat.le_add_right _ _⟩
      · rename_i x r e
        split
        · exact ⟨rfl, rfl, rfl, rfl, rfl, Nat.le_add_right _ _⟩
        · split
          · exact ⟨rfl, rfl, rfl, rfl, rfl, Nat.le_add_right _ _⟩
          · refine ⟨rfl, rfl, rfl, rfl, rfl, ?_⟩
            have h1 : (x :: r).length ≤ l.length := by rw [← e]; exact (List.dropWhile_sublist _).length_le
            show (st.l.take _ ++ x :: r).length ≤ _
            rw [List.length_append, List.length_take]
            omega
def Quiet (m : Mg) : Prop := m.kind ≠ 1 ∧ (m.kind = 2 → m.err ≠ 0)
def Prom (id : Int) (st : RS) (m : Mg) : Prop := (m.kind = 1 → m.term = st.term ∧ st.vote = id) ∧ (m.kind = 2 → m.err = 0 → m.term = st.term ∧ m.to = st.vote ∧ m.to ≠ 0)
theorem Quiet.prom {m : Mg} (h : Quiet m) (id : Int) (st : RS) : Prom id st m := ⟨fun e => absurd e h.1, fun e e2 => absurd e2 (h.2 e)⟩
structure Kp (n n' : Nd) (L : Nat) : Prop where
  id : n'.id = n.id
  wait : n'.wait = n.wait
  ids : n'.ps.map (·.id) = n.ps.map (·.id)
  voted : Voted n.st n'.st
  len : n'.st.l.length ≤ n.st.l.length + L
  out : (∀ p ∈ n.ps, p.id ≠ 0) → ∀ m ∈ n'.out, m ∈ n.out ∨ Prom n.id n'.st m
structure Kq (n n' : Nd) (L : Nat) : Prop where
  id : n'.id = n.id
  wait : n'.wait = n.wait
  ids : n'.ps.map (·.id) = n.ps.map (·.id)
  voted : Voted n.st n'.st
  len : n'.st.l.length ≤ n.st.l.length + L
  out : ∀ m ∈ n'.out, m ∈ n.out ∨ Quiet m
theorem Kq.kp {n n' : Nd} {L : Nat} (h : Kq n n' L) : Kp n n' L := ⟨h.id, h.wait, h.ids, h.voted, h.len, fun _ m hm => (h.out m hm).imp_right fun q => q.prom _ _⟩
theorem Kq.refl (n : Nd) : Kq n n 0 := ⟨rfl, rfl, rfl, Voted.refl _, Nat.le_refl _, fun _ h => .inl h⟩
theorem Kq.trans {a b c : Nd} {L M : Nat} (h : Kq a b L) (g : Kq b c M) : Kq a c (L + M) := ⟨g.id.trans h.id, g.wait.trans h.wait, g.ids.trans h.ids, h.voted.trans g.voted, by have := h.len; have := g.len; omega, fun m hm => by
  rcases g.out m hm with x | x
  · exact h.out m x
  · exact .inr x⟩
theorem Kq.more {a b : Nd} {L M : Nat} (h : Kq a b L) (hl : L ≤ M) : Kq a b M := ⟨h.id, h.wait, h.ids, h.voted, by have := h.len; omega, h.out⟩
theorem Kp.more {a b : Nd} {L M : Nat} (h : Kp a b L) (hl : L ≤ M) : Kp a b M := ⟨h.id, h.wait, h.ids, h.voted, by have := h.len; omega, h.out⟩
theorem ids_ne {a b : Nd} (e : b.ps.map (·.id) = a.ps.map (·.id)) (h : ∀ p ∈ a.ps, p.id ≠ 0) : ∀ p ∈ b.ps, p.id ≠ 0 := fun p hp => by
  have : p.id ∈ b.ps.map (·.id) := List.mem_map_of_mem hp
  rw [e] at this
  obtain ⟨q, hq, eq⟩ := List.mem_map.1 this
  rw [← eq]; exact h q hq
theorem Kq.then {a b c : Nd} {L M : Nat} (h : Kq a b L) (g : Kp b c M) : Kp a c (L + M) := ⟨g.id.trans h.id, g.wait.trans h.wait, g.ids.trans h.ids, h.voted.trans g.voted, by have := h.len; have := g.len; omega, fun hn m hm => by
  rcases g.out (ids_ne h.ids hn) m hm with x | x
  · exact (h.out m x).imp_right fun q => q.prom _ _
  · rw [h.id] at x; exact .inr x⟩
theorem Kq.of {n n' : Nd} (e1 : n'.id = n.id) (e2 : n'.wait = n.wait) (e3 : n'.ps.map (·.id) = n.ps.map (·.id)) (e4 : n'.st = n.st) (e5 : n'.out = n.out) : Kq n n' 0 := ⟨e1, e2, e3, by rw [e4]; exact Voted.refl _, by rw [e4]; exact Nat.le_refl _, fun m hm => .inl (by rw [← e5]; exact hm)⟩
theorem tell_q {n : Nd} {x : Mg} (h : Quiet x) : Kq n (n.tell x) 0 := ⟨rfl, rfl, rfl, Voted.refl _, Nat.le_refl _, fun m hm => by
  rcases List.mem_append.1 hm with g | g
  · exact .inl g
  · rw [List.mem_singleton.1 g]; exact .inr h⟩
theorem send_q (n : Nd) (p : Pr) : Kq n (n.send p) 0 := tell_q (by
  unfold sendM
  split
  · exact ⟨fun e => (by cases e), fun e => (by cases e)⟩
  · exact ⟨fun e => (by cases e), fun e => (by cases e)⟩)
theorem sends_q : ∀ (l : List Pr) (n : Nd), Kq n (l.foldl Nd.send n) 0
  | [], n => Kq.refl n
  | p :: l, n => (send_q n p).trans (sends_q l (n.send p))
theorem all_q (n : Nd) : Kq n n.all 0 := sends_q n.ps n
theorem beats_q (n : Nd) (now : Int) : Kq n (n.beats now) 0 := (all_q n).trans (Kq.of (n := n.all) (n' := n.beats now) rfl rfl rfl rfl rfl)
theorem adv_q (n : Nd) : Kq n n.advance 0 := by
  obtain ⟨a, b, c, d, e, f, g, -⟩ := adv_same n (n.fin - n.commit).toNat n.fin
  exact Kq.of g c (by rw [Nd.advance, a]) b e
theorem put_q (size : Int) (n : Nd) (data : ByteArray) : Kq n (n.put size data).2.2 1 := by
  obtain ⟨a, b, -, -, -, c⟩ := put_same size n.st n.fin [(n.st.term, n.fin + 1, data)]
  exact ⟨rfl, rfl, rfl, Voted.of a b, c, fun _ h => .inl h⟩
theorem lead_q (size : Int) (n : Nd) (now : Int) : Kq n (n.lead size now) 1 := by
  have h1 : Kq n n.lead1 0 := Kq.of rfl rfl (by show (n.ps.map _).map _ = _; rw [List.map_map]; rfl) rfl rfl
  have h2 := h1.trans (put_q size n.lead1 ⟨#[]⟩)
  unfold Nd.lead
  split
  · exact h2.trans (Kq.of (n := (n.lead1.put size ⟨#[]⟩).2.2) (n' := (n.lead1.put size ⟨#[]⟩).2.2.follow 0) rfl rfl rfl rfl rfl)
  · exact (h2.trans (adv_q _)).trans (beats_q _ _)
theorem asks_out (n : Nd) : ∀ (l : List Pr) (m : Nd), (l.foldl (fun m p => m.tell (askM n p)) m).id = m.id ∧ ∀ x ∈ (l.foldl (fun m p => m.tell (askM n p)) m).out, x ∈ m.out ∨ (x.kind = 1 ∧ x.term = m.st.term)
  | [], m => ⟨rfl, fun x hx => .inl hx⟩
  | p :: l, m => by
    obtain ⟨h1, h2⟩ := asks_out n l (m.tell (askM n p))
    refine ⟨h1, fun x hx => ?_⟩
    rcases h2 x hx with g | g
    · rcases List.mem_append.1 g with g | g
      · exact .inl g
      · rw [List.mem_singleton.1 g]; exact .inr ⟨rfl, rfl⟩
    · exact .inr g
theorem asks_p {n : Nd} (hv : n.st.vote = n.id) : Kp n n.asks 0 := by
  obtain ⟨a1, a2, a3, a4, a5, -⟩ := tells_ps n (fun _ p => askM n p) n.ps n
  obtain ⟨b1, b2⟩ := asks_out n n.ps n
  have e2 : n.asks.st = n.st := a2
  refine ⟨b1, a4, by rw [Nd.asks, a1], by rw [e2]; exact Voted.refl _, by rw [e2]; exact Nat.le_refl _, fun _ m hm => ?_⟩
  rcases b2 m hm with g | g
  · exact .inl g
  · exact .inr ⟨fun _ => ⟨by rw [e2]; exact g.2, by rw [e2]; exact hv⟩, fun e => by rw [g.1] at e; cases e⟩
theorem stand_p (size : Int) (n : Nd) (now : Int) : Kp n (n.stand size now) 1 := by
  have h1 : Kq n (n.stood size now).2 0 := ⟨rfl, rfl, rfl, turn_voted size n.st (n.st.term + 1) n.id, by show (turnS size n.st (n.st.term + 1) n.id).2.l.length ≤ _; rw [(turnS_same _ _ _ _).1]; exact Nat.le_refl _, fun _ h => .inl h⟩
  rw [stand_eq]
  split
  · exact h1.kp.more (by decide)
  · rename_i y
    have y : (turnS size n.st (n.st.term + 1) n.id).1 = 0 := Decidable.byContradiction y
    have hd := turn_done y
    have h2 : Kq n (n.stood size now).2.cand 0 := h1.trans (Kq.of (n := (n.stood size now).2) (n' := (n.stood size now).2.cand) rfl rfl (by show (List.map _ _).map _ = _; rw [List.map_map]; rfl) rfl rfl)
    split
    · exact (h2.trans (lead_q size _ now)).kp
    · exact (h2.then (asks_p hd.2)).more (by decide)
theorem tick_p (size : Int) (n : Nd) (now draw : Int) : Kp n (n.tick size now draw) 1 := by
  have h0 : Kq n ({ n with draw := dist draw } : Nd) 0 := Kq.of rfl rfl rfl rfl rfl
  unfold Nd.tick
  revert h0
  generalize ({ n with draw := dist draw } : Nd) = m
  intro h0
  unfold Nd.tick1
  split
  · split
    · exact (h0.trans (beats_q m now)).kp.more (by decide)
    · exact h0.kp.more (by decide)
  · dsimp only
    have h2 : Kq n (if m.deadline = -1 then m.anew now else m) 0 := by
      split
      · exact h0.trans (Kq.of (n := m) (n' := m.anew now) rfl rfl rfl rfl rfl)
      · exact h0
    revert h2
    generalize (if m.deadline = -1 then m.anew now else m) = x
    intro h2
    split
    · exact (h2.then (stand_p size x now)).more (by decide)
    · exact h2.kp.more (by decide)
end Go.Proofs.YthldclmeojkboaaGreatDoor
