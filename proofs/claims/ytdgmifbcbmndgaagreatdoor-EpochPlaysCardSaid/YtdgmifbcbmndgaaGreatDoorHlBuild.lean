/- unsafe.String of a row of bytes (strings.Builder's String). -/
import Derived.Lib.UnsafeStr
import Derived.Test.YtdgmifbcbmndgaaGreatDoorHlBytes
namespace Go.HL
open Go
set_option linter.unusedVariables false

theorem runH_sliceData {P : Program} {ts : Array TypeId} {ty : TypeId} {a : Addr} {n c : Nat} {H : Heap} {K : Value → Heap → Prop} (hc : c ≠ 0) (k : K (.pointer (some a)) H) : runH P (Builtin.unsafeSliceData_ ts ty #[.slice (some a) n c]) H K := by
  show runH P (if c ≠ 0 then pure (Value.pointer (some a)) else _) H K
  rw [if_pos hc]
  exact k
theorem runH_loadB {P : Program} {H : Heap} {K : ByteArray → Heap → Prop} {g : Nat} : ∀ (l : List UInt8) (o : Nat) (acc : ByteArray), (∀ j x, l[j]? = some x → cellH H ⟨g, o + j, none⟩ = some (.int .u8 x.toNat)) → K (l.foldl (fun s b => s.push b) acc) H →
    runH P (loadBytes ⟨g, o, none⟩ acc l.length) H K := by
  intro l
  induction l with
  | nil => intro o acc _ k; exact k
  | cons b l ih =>
    intro o acc hx k
    have h0 := hx 0 b rfl
    rw [Nat.add_zero] at h0
    have ea : (⟨g, o, none⟩ : Addr).add 1 = ⟨g, o + 1, none⟩ := by simp [Addr.add]
    have eb : (Int.toNat ((b.toNat : Nat) : Int)).toUInt8 = b := by simp
    show runH P (load ⟨g, o, none⟩ >>= fun v => match v with | .int .u8 b => loadBytes ((⟨g, o, none⟩ : Addr).add 1) (acc.push b.toNat.toUInt8) l.length | _ => stuck "a byte variable that holds no byte") H K
    refine runH_bind ⟨_, h0, ?_⟩
    show runH P (loadBytes ((⟨g, o, none⟩ : Addr).add 1) (acc.push (Int.toNat ((b.toNat : Nat) : Int)).toUInt8) l.length) H K
    rw [ea, eb]
    refine ih (o + 1) _ (fun j x hj => ?_) k
    have := hx (j + 1) x (by simpa using hj)
    rw [show o + (j + 1) = o + 1 + j by omega] at this; exact this
theorem runH_unsafeString {P : Program} {pt it ty e : TypeId} (hp : P.underlying pt = some (.pointer e)) (hc : P.cellsOf e = 1) {H : Heap} {g : Nat} {arr : Array Value} {fz : Nat × Nat} (hg : H g = some (.cells arr e fz)) {s : ByteArray} (h0 : s.size ≠ 0) (hn : s.size ≤ arr.size) (h63 : s.size ≤ 9223372036854775807)
    (hx : ∀ (j : Nat) (x : UInt8), s.data.toList[j]? = some x → arr[j]? = some (Value.int .u8 x.toNat)) {K : Value → Heap → Prop} (k : ∀ fz', K (.string s) (H.upd g (.cells arr e fz'))) :
    runH P (Builtin.unsafeString_ #[pt, it] ty #[.pointer (some ⟨g, 0, none⟩), .int .i64 ((s.size : Nat) : Int)]) H K := by
  have hsz : s.data.toList.length = s.size := Array.length_toList
  have hlies := Go.Lib.liesAt_bytes (P := P) hc (arr.size / P.cellsOf e) s.size (by rw [hc]; simpa using hn)
  unfold Builtin.unsafeString_
  show runH P (asInt (.int .i64 ((s.size : Nat) : Int)) >>= _) H K
  refine runH_bind ?_
  show runH P (if ((s.size : Nat) : Int) < 0 then _ else _) H K
  rw [if_neg (by omega)]
  show runH P (if ((s.size : Nat) : Int) > IntKind.i64.max then _ else _) H K
  rw [if_neg (by show ¬ ((s.size : Nat) : Int) > 9223372036854775807; omega)]
  show runH P (if ((s.size : Nat) : Int) = 0 then _ else _) H K
  rw [if_neg (by omega)]
  show runH P (elemOf pt >>= _) H K
  unfold elemOf
  refine runH_bind (runH_bind (runH_underlying hp ?_))
  show runH P (variablesAt ⟨g, 0, none⟩ e (Int.toNat ((s.size : Nat) : Int)) >>= _) H K
  refine runH_bind ?_
  unfold variablesAt
  show runH P (program >>= _) H _
  refine runH_bind ?_
  show runH P (shape g >>= _) H _
  refine runH_bind ⟨arr, e, fz, hg, ?_⟩
  show runH P (if liesAt P P.depth e (arr.size / P.cellsOf e) 0 e (Int.toNat ((s.size : Nat) : Int)) = true then _ else _) H K
  rw [Int.toNat_natCast, if_pos hlies]
  refine runH_bind ?_
  rw [← hsz]
  refine runH_loadB s.data.toList 0 .empty (fun j x hj => ?_) ?_
  · rw [Nat.zero_add, cellH_eq hg]; exact hx j x hj
  have es : s.data.toList.foldl (fun s b => s.push b) .empty = s := by
    have h1 := foldl_push s.data.toList .empty
    have h2 : (⟨#[]⟩ : ByteArray) = .empty := rfl
    generalize List.foldl (fun s b => ByteArray.push s b) ByteArray.empty s.data.toList = t at *
    cases t; cases s
    have h3 : ByteArray.empty.data = #[] := rfl
    rw [h3] at h1
    simp at h1
    rw [h1]
  rw [es]
  refine ⟨by rw [hsz]; exact h0, arr, e, fz, hg, ?_⟩
  show K (.string s) (H.upd g (freezeO (.cells arr e fz) 0 _))
  obtain ⟨lo, hi⟩ := fz
  exact k _
end Go.HL
