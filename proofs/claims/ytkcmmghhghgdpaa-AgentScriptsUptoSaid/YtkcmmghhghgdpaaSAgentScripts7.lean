/- What the law AgentScripts needs of the seat's contracts and plain laws, several texts one behind the other; no conditions. -/
import Derived.Test.YtkcmmghhghgdpaaSAgentScripts1
import Derived.Test.YtkcmmghhghgdpaaSAgentScripts0
import Derived.Test.YtkcmmghhghgdpaaSAgentScripts2
import Derived.Test.YtkcmmghhghgdpaaSAgentScripts3
import Derived.Test.YtkcmmghhghgdpaaSAgentScripts4
import Derived.Test.YtkcmmghhghgdpaaSAgentScripts6
section
-- PRINTED BY print.sh 35421559b90ae4d0a3588c463048766b98c2df88dd9212a6774a882060cdf62d: not written by this session
-- PRINTED WORDS (module Derived/Print/More.lean): go-gate-2's additions: an AI agent of Go's test side, Tue Nov 17 2026; no person has read it. Lean checks it.
namespace Go.Proofs.YtkcmmghhghgdpaaW.PrintMore
open Go.RowKit Go.Proofs.YtkcmmghhghgdpaaW.PrintWords
namespace Kd
open Go.Proofs.YtkcmmghhghgdpaaW.PrintWords.Kd
end Kd

namespace Kd
open Go.Proofs.YtkcmmghhghgdpaaW.PrintWords.Kd
section
variable {α : Type} {d : Kd α} {e base g N : Nat} {ok : Nat → Prop} {W w1 : World} {u v : Value} {xs : List α}
end
end Kd
end Go.Proofs.YtkcmmghhghgdpaaW.PrintMore
namespace Go.Proofs.YtkcmmghhghgdpaaW.PrintWords
open Go.RowKit
section
variable {P : Program} {ops : Array Oper} {rest : List Oper} {o : Oper} {a : Act} {Q : Exit → Act → World → Prop} {W : World}
/-- The operation is a call of this function (a cheap look ahead of a dear step). -/
theorem gate_callee {f : FuncId} {as : Array Operand} {ts : Array TypeId} (_ho : o.op = .call { callee := .value (.func f), args := as, argTypes := ts }) (h : wpList P ops Q (o :: rest) a W) : wpList P ops Q (o :: rest) a W := h
end
namespace Kd
section
variable {α : Type} {d : Kd α} {e base : Nat} {ok : Nat → Prop} {W w1 : World} {v : Value} {xs : List α}
end
section
variable {α : Type} {d : Kd α} {e base g n cap : Nat} {ok oki okp : Nat → Prop} {W : World} {xs : List α} {i : Int} {c : List Value}
end
section
variable {α : Type} {d : Kd α} {e base b b' g N : Nat} {ok ok1 : Nat → Prop} {W W2 w1 : World} {u v : Value} {xs ys : List α} {S : Nat → Prop}
end
end Kd
end Go.Proofs.YtkcmmghhghgdpaaW.PrintWords
namespace Go.Proofs.YtkcmmghhghgdpaaW.PrintWords
open Go.RowKit
namespace Kd
section
variable {α β : Type} {d : Kd α} {e base base' n m c g N' lo hi : Nat} {ok ok' S : Nat → Prop} {w W w1 : World} {A : Option Addr} {ad : Addr} {u v v1 : Value} {xs : List α}
end
end Kd
end Go.Proofs.YtkcmmghhghgdpaaW.PrintWords
end
