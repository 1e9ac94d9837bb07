/-
  The product of two numbers of 64 bits, by the library's own contract.
-/
import Derived.Test.YtaagelngbbkllaaVPure
import Derived.Test.YtaagelngbbkllaaVT
import Derived.Shelf.Bits.Mul64
namespace Go.Proofs.Ytaagelngbbkllaa
open Go Go.Vx Go.Shelf
def r64 : Ren := ⟨fun | 264 => 130 | n => n, fun | 53 => 182 | 46 => 187 | n => n, fun n => n⟩
theorem lays264 : Lays.n264 Try.prog r64 := { mixed := rfl, f264 := Try.func130, t46 := Try.underlying187, a46 := Try.isAgg187, z46 := Try.sizeOf187, v46 := Try.zeroValue187, t53 := Try.underlying182, a53 := Try.isAgg182, z53 := Try.sizeOf182, v53 := Try.zeroValue182 }
theorem mul64_s (x y : Nat) (hx : x < 18446744073709551616) (hy : y < 18446744073709551616) : Ctr Try.prog 130 [.v (.int .u64 (x : Int)), .v (.int .u64 (y : Int))] (fun rr => rr = ⟨.tup [.v (.int .u64 ((x * y / 18446744073709551616 : Nat) : Int)), .v (.int .u64 ((x * y % 18446744073709551616 : Nat) : Int))], []⟩) := by
  refine Ctr.vals (xs := [.int .u64 (x : Int), .int .u64 (y : Int)]) Try.func130 rfl rfl (u := .tuple #[.int .u64 ((x * y / 18446744073709551616 : Nat) : Int), .int .u64 ((x * y % 18446744073709551616 : Nat) : Int)]) (fun g => ?_) fun w => ?_
  · simp only [rel]
    exact ⟨_, rfl, rels_same [.int .u64 ((x * y / 18446744073709551616 : Nat) : Int), .int .u64 ((x * y % 18446744073709551616 : Nat) : Int)]⟩
  · have h := Any.bits_Mul64 lays264 x y hx hy w
    refine Calls.mono h ?_
    rintro e w' ⟨rfl, rfl⟩
    exact ⟨rfl, ⟨rfl, rfl, rfl, Nat.le_refl _, fun _ _ => rfl⟩⟩
end Go.Proofs.Ytaagelngbbkllaa
