-- written by wip/tools/pack.py: rows of Booleans as numbers
namespace Go.Proofs
def bbl : Nat → Nat → List Bool
 | 0, _ => []
 | n + 1, k => (k % 2 == 1) :: bbl n (k / 2)
def bb (n k : Nat) : Array Bool := ⟨bbl n k⟩
end Go.Proofs
