/- Chapter 8: a map's keys, sorted. -/
import Derived.Test.YtkabaoigablphaaLays
import Derived.Test.YtkabaoigablphaaHlSorted
namespace Go.Proofs.Ytkabaoigablphaa
open Go Go.HL Go.RowKit Go.Maps Go.Shelf

theorem sortsA (m : Nat) : AnyZI.SortsIn Try.prog Try.sortedA_ren Fence.wide m :=
  ⟨fun blk off cap ss W hH hblk hsz => callsIn_wide.2 (AnyM.slices_Sort_int Try.sortA blk off cap ss W hH hblk hsz),
   fun p cap W => callsIn_wide.2 (AnyM.slices_Sort_int_none Try.sortA p cap W)⟩
theorem keys_spec {cs : List Chunk} {H : Heap} {b : Nat} {K : Value → Heap → Prop} (h : Holds cs H) (k : ∀ q H', Holds (blk q (.cells #[.map (some b)] 53 (0, 0)) :: cs) H' → K (.func (.func 59) #[] #[.pointer (some ⟨q, 0, none⟩)]) H') :
    FnH Try.prog 43 #[.map (some b)] H K :=
  keys_fn (T := 53) (g := 59) (fun w => (callsIn_wide (n := 5)).1 (AnyZI.keys_in Try.keysA Fence.wide 5 trivial rfl (some b) w)) h k
theorem sorted_spec {cs : List Chunk} {H : Heap} {q b : Nat} {l : List (Int × Value)} {K : Value → Heap → Prop} (h : Holds (blk q (.cells #[.map (some b)] 53 (0, 0)) :: mp b (fun n : Int => Value.int .i64 n) l :: cs) H) (hn : (l.map Prod.fst).Nodup) (hlen : l.length ≤ 268435456)
    (hwf : ∀ x ∈ l.map Prod.fst, -9223372036854775808 ≤ x ∧ x ≤ 9223372036854775807)
    (k : ∀ (s : Sl) H', Holds (HL.own 3 1 s (((l.map Prod.fst).mergeSort fun x y => decide (x ≤ y)).map (Value.int .i64)) :: mp b (fun n : Int => Value.int .i64 n) l :: cs) H' → K (.slice s.p s.n s.c) H') :
    FnH Try.prog 42 #[.func (.func 59) #[] #[.pointer (some ⟨q, 0, none⟩)]] H K :=
  sortedInt_fn (g := 59) (kt := 3) (by kernel_rfl)
    (fun Bm b nn D0 w hBm hm hown => AnyZI.keys_gives (ρ := Try.keysA_ren) { Try.keysA with } Fence.wide _ trivial rfl (by omega) Bm b nn D0 w hBm hm hown)
    (fun lb S N w hN hNb hseq => (callsIn_wide (n := 5)).1 (AnyZI.sorted_in Try.sortedA Fence.wide 5 trivial trivial trivial trivial rfl (by omega) (sortsA _) (enters_of Try.func58 (by kernel_rfl) rfl) 59 lb trivial (enters_of Try.func59 (by kernel_rfl) rfl) S N hN hNb w hseq))
    h hn hlen hwf k
end Go.Proofs.Ytkabaoigablphaa
