/- What a command makes of a state: plain functions. -/
import Derived.Test.YtfjmenbkcdjaoaaStB
import Derived.Test.YtfjmenbkcdjaoaaFixW
import Derived.Test.YtfjmenbkcdjaoaaTableR
namespace Go.Proofs.Ytfjmenbkcdjaoaa
open Go.RowKit

/-- The first error whose condition does not hold. -/
def firstE : List (Bool × Int) → Int
  | [] => 0
  | (b, e) :: l => if b then firstE l else e
/-- A command. -/
structure Cmd where
  k : Int
  n : Int
  la : Nat
  lo : Nat
def Cmd.In (c : Cmd) : Prop := (Lit.int .i64 c.k).wf = true ∧ (Lit.int .i64 c.n).wf = true ∧ c.la < 18446744073709551616 ∧ c.lo < 18446744073709551616
abbrev cmv (c : Cmd) : Value := .agg #[.int .i64 c.k, .int .i64 c.n, .float .f64 c.la, .float .f64 c.lo]

def goesL (s : Fl) (n : Int) : List (Bool × Int) := [(Dw.way s.m n, 20), (s.ar || n == 0, 22), (!s.ar || n != 0, 21), (s.ho || !Dw.homeM n, 23), (decide (Dw.needs n ≤ soundN s.iso), 24)]
def goesE (s : Fl) (n : Int) : Int := firstE (goesL s n)
def armE (s : Fl) : Int := firstE [(!s.ar, 21), (decide (2 ≤ soundN s.iso), 24)]
def disE (s : Fl) : Int := firstE [(s.ar, 22), (s.m == 1 || s.m == 5, 20)]
def homeE (c : Cmd) : Int := if fixE c.la 90 = 0 then fixE c.lo 180 else fixE c.la 90
/-- The sensor's bit. -/
def bitN (n : Int) : Int := if n = 0 then 1 else if n = 1 then 2 else if n = 2 then 4 else 8
def sensE (s : Fl) (k n : Int) : Int :=
  if n < 0 ∨ 4 ≤ n then 1
  else if k = 5 ∧ bits .and .i64 s.iso (bitN n) = 0 ∧ ¬ Dw.needs s.m + 1 ≤ soundN s.iso then 24 else 0
def deltaE (s : Fl) (c : Cmd) : Int :=
  if c.k = 1 then goesE s c.n else if c.k = 2 then armE s else if c.k = 3 then disE s else if c.k = 4 then homeE c else if c.k = 5 ∨ c.k = 6 then sensE s c.k c.n else 1
/-- What the command makes of it, if it may. -/
def doneS (s : Fl) (c : Cmd) : Fl :=
  if c.k = 1 then { s with m := c.n } else if c.k = 2 then { s with ar := true, m := 1 } else if c.k = 3 then { s with ar := false, m := 0 }
  else if c.k = 4 then { s with ho := true, la := fixN c.la 90, lo := fixN c.lo 180 }
  else if c.k = 5 then { s with iso := bits .or .i64 s.iso (bitN c.n) }
  else { s with iso := s.iso - bits .and .i64 s.iso (bitN c.n) }
def deltaS (s : Fl) (c : Cmd) : Fl := if deltaE s c = 0 then doneS s c else s
def fitsL (s : Fl) : List (Bool × Int) := [(s.ar == Dw.flying s.m, 1), (s.ho || !Dw.homeM s.m, 1), (decide (Dw.needs s.m ≤ soundN s.iso), 1)]
end Go.Proofs.Ytfjmenbkcdjaoaa
