/- Pieces of a function's code, for theorems of their own. -/
import Derived.Test.YtdmkijdbldcdiaaBase
namespace Go.Proofs.Ytdmkijdbldcdiaa

/-- A piece of a code: 0, 1: the ways of a seq; 2: inside a block, loop, scope; 3, 4: the ways of a cond. -/
def piece : List Nat → Code → Code
  | [], c => c
  | 0 :: p, .seq a _ => piece p a
  | 1 :: p, .seq _ b => piece p b
  | 2 :: p, .loop c => piece p c
  | 2 :: p, .block _ c => piece p c
  | 2 :: p, .scope c => piece p c
  | 3 :: p, .cond _ a _ => piece p a
  | 4 :: p, .cond _ _ b => piece p b
  | _, _ => .skip
end Go.Proofs.Ytdmkijdbldcdiaa
