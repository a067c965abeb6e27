/- Lines, as plain functions: what is cut, put, joined, and parted. -/
import Derived.Test.YtlfenakgphmepaaDoorPrint0
import Derived.Test.YtlfenakgphmepaaDoorConv
import Derived.Lib.Bytes
namespace Go.Proofs.YtlfenakgphmepaaDoor.Line
open Go.RowKit Go.Proofs.YtlfenakgphmepaaDoorW.PrintWords Go.Proofs.YtlfenakgphmepaaDoorW.PrintLast Go.Proofs.YtlfenakgphmepaaDoorW.PrintMore Go.Proofs.YtlfenakgphmepaaDoor.Conv Go.Proofs.YtlfenakgphmepaaDoor.Print
def Byte (x : Int) : Prop := 0 <= x /\ x <= 255
theorem w64 {x : Int} (h0 : -9223372036854775808 <= x) (h1 : x <= 9223372036854775807) : wrap64 x = x := by unfold wrap64; omega
def Bytes (b : List Int) : Prop := ∀ x ∈ b, Byte x
theorem Bytes.drop {b : List Int} (h : Bytes b) (n : Nat) : Bytes (b.drop n) := fun x hx => h x (List.mem_of_mem_drop hx)
theorem Bytes.take {b : List Int} (h : Bytes b) (n : Nat) : Bytes (b.take n) := fun x hx => h x (List.mem_of_mem_take hx)
theorem Bytes.append {a b : List Int} (h : Bytes a) (k : Bytes b) : Bytes (a ++ b) := fun x hx => (List.mem_append.1 hx).elim (h x) (k x)
section
variable {n : Nat} {a x c d : Int} {t : List Int}
end
theorem bytesOf_strOf {xs : List Int} (h : Bytes xs) : bytesOf (strOfNums xs) = xs := by
 unfold bytesOf strOfNums
 simp only [List.map_map]
 conv => rhs; rw [<- List.map_id xs]
 refine List.map_congr_left (fun x hx => ?_)
 have h1 := (h x hx).1
 have h2 := (h x hx).2
 simp
 omega
theorem strOf_bytesOf (s : ByteArray) : strOfNums (bytesOf s) = s := by
 apply ByteArray.ext
 apply Array.ext'
 unfold bytesOf strOfNums
 simp only [List.map_map]
 conv => rhs; rw [<- List.map_id s.data.toList]
 refine List.map_congr_left (fun x hx => ?_)
 simp
theorem bytesOf_bytes (s : ByteArray) : Bytes (bytesOf s) := by
 intro x hx
 unfold bytesOf at hx
 obtain ⟨b, _, rfl⟩ := List.mem_map.1 hx
 have := b.toNat_lt
 exact ⟨by omega, by omega⟩
end Go.Proofs.YtlfenakgphmepaaDoor.Line
