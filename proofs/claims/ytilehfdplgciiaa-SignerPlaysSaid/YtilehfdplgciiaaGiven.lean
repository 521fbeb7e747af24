import Derived.Test.YtilehfdplgciiaaHSum
import Derived.Test.YtilehfdplgciiaaRefSum
import Derived.Test.YtilehfdplgciiaaDig
import Derived.Test.YtilehfdplgciiaaJoin
/-! The contracts that the print takes as given. -/
namespace Go.Proofs.Ytilehfdplgciiaa.Given
open Go.RowKit Go.Proofs.YtilehfdplgciiaaW.PrintWords
def hash_Sum.f (l : List ByteArray) : Option ByteArray := Hand.hash_Sum.f l
theorem hash_Sum.calls (A0 : Option Addr) (c0 : Nat) (l0 : List ByteArray) (r : ByteArray) (w : World) (hr0 : Kd.C Kd.string w A0 l0.length l0) (hc0 : l0.length ≤ c0) (h : hash_Sum.f l0 = some r) :
    Calls Try.prog 89 #[.slice A0 l0.length c0] w fun e w' => e = .returned (.string r) ∧ Below w.heap.size w w' := Hand.hash_Sum.calls A0 c0 l0 r w hr0 hc0 h
def certpathref01_Sum.f (l : List ByteArray) : Option ByteArray := Hand.hash_Sum.f l
theorem certpathref01_Sum.calls (A0 : Option Addr) (c0 : Nat) (l0 : List ByteArray) (r : ByteArray) (w : World) (hr0 : Kd.C Kd.string w A0 l0.length l0) (hc0 : l0.length ≤ c0) (h : certpathref01_Sum.f l0 = some r) :
    Calls Try.prog 69 #[.slice A0 l0.length c0] w fun e w' => e = .returned (.string r) ∧ Below w.heap.size w w' := Hand.certpathref01_Sum.calls A0 c0 l0 r w hr0 hc0 h
def ots_Digits.f (a0 : ByteArray) : Option (List Int × Int) := Hand.ots_Digits.f a0
theorem ots_Digits.calls (a0 : ByteArray) (r1 : List Int) (r2 : Int) (w : World) (h : ots_Digits.f a0 = some (r1, r2)) :
    Calls Try.prog 23 #[.string a0] w fun e w' => ∃ v0_ : Value, e = .returned (.tuple #[v0_, .int .i64 r2]) ∧ Kd.R (Kd.int .i64) 3 w' w.heap.size (fun _ => True) v0_ r1 ∧ Below w.heap.size w w' := Hand.ots_Digits.calls a0 r1 r2 w h
def ots_join.f (l : List ByteArray) : Option ByteArray := Hand.ots_join.f l
theorem ots_join.calls (A0 : Option Addr) (c0 : Nat) (l0 : List ByteArray) (r : ByteArray) (w : World) (hr0 : Kd.C Kd.string w A0 l0.length l0) (hc0 : l0.length ≤ c0) (h : ots_join.f l0 = some r) :
    Calls Try.prog 76 #[.slice A0 l0.length c0] w fun e w' => e = .returned (.string r) ∧ Below w.heap.size w w' := Hand.ots_join.calls A0 c0 l0 r w hr0 hc0 h
end Go.Proofs.Ytilehfdplgciiaa.Given
