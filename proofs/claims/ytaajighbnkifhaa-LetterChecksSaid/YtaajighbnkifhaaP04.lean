/- Plain words of layer 4: configurations, letters. -/
import Derived.Test.YtaajighbnkifhaaD
namespace Go.Proofs.Ytaajighbnkifhaa
open Go.RowKit
set_option linter.unusedVariables false
set_option linter.unusedSimpArgs false
def within (n lo hi : Int) : Bool := decide (lo ≤ n) && decide (n ≤ hi)
def cfgE (c : Cfg) : Int :=
  if !within c.sets 1 64 || !within c.ways 1 16 || !within c.cap 1 65536 || !within c.wait 1 64 || !within c.tries 0 8 || !within c.policy 0 2 then 1
  else if !within c.nodes 1 64 then 2 else if !within c.blocks 1 64 then 3 else if !within c.tokens c.nodes 65536 then 4 else 0
/-- What a kind's letters have. -/
structure Row8 where
  fh : Bool
  fn : Bool
  th : Bool
  tn : Bool
  sq : Bool
  wh : Bool
  wt : Bool
  tk : Bool
def rowOf (k : Int) : Row8 × Bool :=
  if k = 1 then (⟨true, true, true, true, false, false, false, true⟩, true)
  else if k = 2 then (⟨false, true, true, true, false, false, true, false⟩, true)
  else if k = 3 then (⟨false, true, true, false, false, false, false, false⟩, true)
  else if k = 4 then (⟨true, false, false, true, true, true, false, false⟩, true)
  else if k = 5 then (⟨false, true, true, false, true, false, false, false⟩, true)
  else if k = 6 then (⟨true, false, false, true, true, false, false, false⟩, true)
  else if k = 7 then (⟨false, true, true, false, true, false, false, false⟩, true)
  else (⟨false, false, false, false, false, false, false, false⟩, false)
/-- May a letter begin, or end, there? -/
def endE (c : Cfg) (at' : Int) (home node : Bool) : Bool := home && decide (at' = c.nodes) || node && decide (0 ≤ at') && decide (at' < c.nodes)
def formE (c : Cfg) (l : Ltr) (r : Row8) : Bool :=
  (r.sq && decide (1 ≤ l.seq) || !r.sq && decide (l.seq = 0)) && (r.wh && endE c l.who false true || !r.wh && decide (l.who = 0)) && (r.wt || !l.wr)
/-- What Check tells, its row being r, or there being none. -/
def lcheckR (c : Cfg) (l : Ltr) (r : Row8) (ok : Bool) : Int :=
  if ok = false then 7 else if l.block < 0 ∨ c.blocks ≤ l.block then 3
  else if l.frm = l.to ∨ endE c l.frm r.fh r.fn = false ∨ endE c l.to r.th r.tn = false then 8
  else if formE c l r = false then 10
  else if r.tk = false then (if l.tok = bun0 then 0 else 6)
  else if bcheck l.tok c.tokens ≠ 0 then bcheck l.tok c.tokens else if 0 < l.tok.c then 0 else 4
def lcheck (c : Cfg) (l : Ltr) : Int := lcheckR c l (rowOf l.kind).1 (rowOf l.kind).2
/-! ### the reference's -/
def nodeE (c : Cfg) (n : Int) : Bool := decide (0 ≤ n) && decide (n < c.nodes)
def anyE (c : Cfg) (n : Int) : Bool := decide (n = c.nodes) || nodeE c n
def endsE (c : Cfg) (l : Ltr) : Bool :=
  if l.frm = l.to then false else if l.kind = 1 then anyE c l.frm && anyE c l.to else if l.kind = 2 then nodeE c l.frm && anyE c l.to
  else if l.kind = 4 ∨ l.kind = 6 then decide (l.frm = c.nodes) && nodeE c l.to else nodeE c l.frm && decide (l.to = c.nodes)
def rlcheck (c : Cfg) (l : Ltr) : Int :=
  if l.kind < 1 ∨ 7 < l.kind then 7 else if l.block < 0 ∨ c.blocks ≤ l.block then 3 else if endsE c l = false then 8
  else if (4 ≤ l.kind ∧ l.seq < 1) ∨ (l.kind < 4 ∧ l.seq ≠ 0) then 10
  else if (l.kind = 4 ∧ nodeE c l.who = false) ∨ (l.kind ≠ 4 ∧ l.who ≠ 0) then 10
  else if l.wr = true ∧ l.kind ≠ 2 then 10
  else if l.kind ≠ 1 then (if l.tok = bun0 then 0 else 6)
  else if bcheck l.tok c.tokens ≠ 0 then bcheck l.tok c.tokens else if l.tok.c = 0 then 4 else 0
end Go.Proofs.Ytaajighbnkifhaa
