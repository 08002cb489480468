/- The hash, walked: Bytes. -/
import Derived.Test.YtbomfnlipbdigaaHaPut
namespace Go.Proofs.Ytbomfnlipbdigaa
open Go.RowKit

def bytes2 (a b : Nat) : List Nat := be a 8 ++ be b 8
theorem be_length (n k : Nat) : (be n k).length = k := beN_length n k k
theorem bytes2_length (a b : Nat) : (bytes2 a b).length = 16 := by rw [bytes2, List.length_append, be_length, be_length]

end Go.Proofs.Ytbomfnlipbdigaa
