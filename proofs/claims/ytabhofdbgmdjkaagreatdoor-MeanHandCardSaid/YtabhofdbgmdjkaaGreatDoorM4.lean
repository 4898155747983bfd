/- What comes of what goes on of itself: settling. Plain Lean, no program in sight. -/
import Derived.Test.YtabhofdbgmdjkaaGreatDoorM3
namespace Go.Rd
open Go Go.Sv
set_option linter.unusedVariables false
set_option linter.unusedSimpArgs false
namespace Tm
def stack' (x c : Tm) : Tm := match x with
  | fin s d => fin s (seq d c)
  | y => stack y c
def par' (x y : Tm) : Tm := match x, y with
  | over s, over z => over (bs s z)
  | fin s c, fin z d => fin (bs s z) (par c d)
  | x, y => par x y
/-- One round of settling: f settles what is less. -/
def stS (f : Tm → Tm) : Tm → Tm
  | skip => over 1
  | throw => over 2
  | hand a b => (match f a with
    | over s => if s = 2 then f b else over s
    | y => hand y b)
  | seq a b => (match f a with
    | over s => if s = 1 then f b else over s
    | fin s c => if s = 1 then stack' (f b) c else fin s c
    | y => seq y b)
  | stack a c => stack' (f a) c
  | going a b => (match f a with
    | over s => if s = 1 then fin 1 b else fin s skip
    | y => going y b)
  | par a b => par' (f a) (f b)
  | block a => (match f a with
    | fin s c => if s = 1 then over 1 else if s = 2 then f c else block (fin s c)
    | y => block y)
  | m => m
def stF : Nat → Tm → Tm
  | 0, m => m
  | n + 1, m => stS (stF n) m
/-- What comes of what goes on. -/
def st (m : Tm) : Tm := stF m.size m
/-- Settled: nothing goes on of itself. -/
def settled (m : Tm) : Prop := m.st = m
end Tm
end Go.Rd
