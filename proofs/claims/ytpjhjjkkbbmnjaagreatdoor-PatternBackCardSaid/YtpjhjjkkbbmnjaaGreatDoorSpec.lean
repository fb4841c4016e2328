/- What the functions of classes and patterns compute: plain Lean, no program. -/
namespace Go.Vir

/-- P8.1: a right set of classes. -/
def rightB (s n : Int) : Bool := decide (1 ≤ n) && (decide (n ≤ 32) && (decide (0 ≤ s) && decide (s < 2 ^ n.toNat)))
/-- P8.1: a class of a set. -/
def bitB (s c : Int) : Bool := rightB s 32 && (decide (0 ≤ c) && (decide (c < 32) && (s / 2 ^ c.toNat % 2 == 1)))
/-- P9.1: a right item of so many classes. -/
def itemB (n : Int) (x : Int × Int) : Bool := decide (0 ≤ x.2) && (decide (x.2 ≤ 2) && rightB x.1 n)
/-- P9.1: a right pattern. -/
def patB (n : Int) (xs : List (Int × Int)) : Bool := decide (1 ≤ n) && (decide (n ≤ 32) && (decide (xs.length ≤ 10) && xs.all (itemB n)))
end Go.Vir
