/- Formulas of functions, printed by this session's vc.py; each is tied to the program by the kernel. -/
import Derived.Test.YtmneimfhcjkinaaDoorProg
import Derived.KernelRfl
import Derived.Test.YtmneimfhcjkinaaDoorHlFn
import Derived.Test.YtmneimfhcjkinaaDoorVp
namespace Go.Proofs.YtmneimfhcjkinaaDoor
open Go.HL
set_option maxRecDepth 100000
/-! function 8: logboom/raftlog.Open -/
def raftlog_Open_ann : Anns := { hid := [8], loops := [(0, { slots := [(24, .int .i64)], kept := [0, 1, 6, 22, 23], locs := [], keptL := [] })], joins := [], mix := [] }
def raftlog_Open_vc (d0 : Nat) (d0o : Nat) (prefix0 : ByteArray) (H : Heap) (K : Value → Heap → Prop) : Prop :=
  ∀ q1 : Nat,
  H q1 = none →
  letH (Heap.upd H q1 (.cells #[.int .i64 0, .int .i64 0, .int .i64 0, .int .i64 0, .string (⟨#[]⟩ : ByteArray), .slice none 0 0, .pointer (some ⟨d0, d0o, none⟩), .string prefix0] 40 (0, 0))) fun H1 =>
  ∀ q2 : Nat,
  H1 q2 = none →
  letH (Heap.upd H1 q2 (.cells #[.string (⟨#[46, 116, 101, 114, 109]⟩ : ByteArray), .func (.func 23) #[.pointer (some ⟨q1, 0, none⟩)] #[], .string (⟨#[46, 115, 110, 97, 112]⟩ : ByteArray), .func (.func 24) #[.pointer (some ⟨q1, 0, none⟩)] #[]] 63 (0, 0))) fun H2 =>
  ∃ I1 : Int → Heap → Prop,
  ∃ M1 : Int → Heap → Nat,
  I1 0 H2 ∧
  ∀ n_1 : Int,
  ∀ H3 : Heap,
  I1 n_1 H3 →
  br (decide ((n_1 : Int) < (2 : Nat))) (
    ∃ q3 : Nat,
    ∃ o1 : Nat,
    ((some ⟨q2, 0, none⟩) : Option Addr) = some ⟨q3, o1, none⟩ ∧
    0 ≤ (n_1 : Int) ∧
    (n_1 : Int) < (2 : Nat) ∧
    ∃ s1 : ByteArray,
    cellH H3 ⟨q3, o1 + Int.toNat n_1 * 2, none⟩ = some (.string s1) ∧
    ∃ w1 : Fv,
    cellH H3 ⟨q3, o1 + Int.toNat n_1 * 2 + 1, none⟩ = some (.func (.func w1.k) w1.first w1.cap) ∧
    prefix0.size + s1.size < 9223372036854775808 ∧
    FnH Tryd.prog 25 #[.pointer (some ⟨d0, d0o, none⟩), .string (prefix0 ++ s1)] H3 fun r1 H4 =>
      ∃ s2 : ByteArray,
      ∃ n1 : Int,
      r1 = .tuple #[.string s2, .int .i64 n1] ∧
      br ((n1 : Int) != 0) (
        SelfEq ([.v (.pointer (some ⟨d0, d0o, none⟩)), .v (.string prefix0), .v (.pointer (some ⟨q1, 0, none⟩)), .v (.slice (some ⟨q2, 0, none⟩) 2 2), .v (.int .i64 (2 : Nat))], [], []) ∧
        I1 (IntKind.wrap .i64 (n_1 + 1)) H4 ∧
        M1 (IntKind.wrap .i64 (n_1 + 1)) H4 < M1 n_1 H3)
       (
        FnH Tryd.prog 26 #[.string s2] H4 fun r2 H5 =>
          ∃ s3 : ByteArray,
          ∃ n2 : Int,
          r2 = .tuple #[.string s3, .int .i64 n2] ∧
          br ((n2 : Int) != 0) (
            K (.tuple #[.pointer none, .int .i64 n2]) H5)
           (
            callV Tryd.prog (.v (.func (.func w1.k) w1.first w1.cap)) fun g1 f1 t1 => FnH Tryd.prog g1 (f1 ++ ([.string s3] ++ t1 : List Value)).toArray H5 fun r3 H6 =>
              ∃ b1 : Bool,
              r3 = .bool b1 ∧
              br (!b1) (
                K (.tuple #[.pointer none, .int .i64 4]) H6)
               (
                SelfEq ([.v (.pointer (some ⟨d0, d0o, none⟩)), .v (.string prefix0), .v (.pointer (some ⟨q1, 0, none⟩)), .v (.slice (some ⟨q2, 0, none⟩) 2 2), .v (.int .i64 (2 : Nat))], [], []) ∧
                I1 (IntKind.wrap .i64 (n_1 + 1)) H6 ∧
                M1 (IntKind.wrap .i64 (n_1 + 1)) H6 < M1 n_1 H3))))
   (
    FnH Tryd.prog 27 #[.pointer (some ⟨q1, 0, none⟩)] H3 fun r4 H7 =>
      ∃ n3 : Int,
      r4 = .int .i64 n3 ∧
      br ((n3 : Int) != 0) (
        K (.tuple #[.pointer none, .int .i64 n3]) H7)
       (
        K (.tuple #[.pointer (some ⟨q1, 0, none⟩), .int .i64 0]) H7))
theorem raftlog_Open_eq (d0 : Nat) (d0o : Nat) (prefix0 : ByteArray) (H : Heap) (K : Value → Heap → Prop) : raftlog_Open_vc d0 d0o prefix0 H K = denFn Tryd.prog raftlog_Open_ann Tryd.f8 (bodyOf Tryd.f8) [.pointer (some ⟨d0, d0o, none⟩), .string prefix0] H K := by kernel_rfl
theorem raftlog_Open_fn (d0 : Nat) (d0o : Nat) (prefix0 : ByteArray) {H : Heap} {K : Value → Heap → Prop} (h : raftlog_Open_vc d0 d0o prefix0 H K) : FnH Tryd.prog 8 #[.pointer (some ⟨d0, d0o, none⟩), .string prefix0] H K :=
  denFn_fn Tryd.mixed raftlog_Open_ann Tryd.func8 (bodyOf_spec (by kernel_rfl)) (raftlog_Open_eq d0 d0o prefix0 H K) h

end Go.Proofs.YtmneimfhcjkinaaDoor
