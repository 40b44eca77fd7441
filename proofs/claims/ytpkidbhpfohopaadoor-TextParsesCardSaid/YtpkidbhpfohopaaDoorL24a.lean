/- Layer 24's walks: TextParses, TextPrints, TextBack, TextOne, TextShows. No condition. -/
import Derived.Test.YtpkidbhpfohopaaDoorB24
noncomputable section
namespace Go.Proofs.YtpkidbhpfohopaaDoor
open Go.RowKit
set_option linter.unusedVariables false
theorem TextParses_walk (w : World) (hst : St w) (s : ByteArray) (hs : s.size ≤ maxLen) :
    Calls Tryd.prog 3 #[.string s] w fun e w' => e = .returned (.bool true) ∧ Below w.heap.size w w' :=
  walk_of_con cParses_ok s trivial rfl rfl rfl hst [_] ⟨.str hs .nil, trivial⟩
theorem TextOne_walk (w : World) (hst : St w) (s : ByteArray) (hs : s.size ≤ maxLen) :
    Calls Tryd.prog 6 #[.string s] w fun e w' => e = .returned (.bool true) ∧ Below w.heap.size w w' :=
  walk_of_con cOne_ok s trivial rfl rfl rfl hst [_] ⟨.str hs .nil, trivial⟩
theorem TextPrints_walk (w : World) (hst : St w) (c : Cfg) (hc : okCfg c) (A : Option Addr) (n k : Nat) (l : List Ent) (R : Rdc Ent.cs 5 w A n k l) (hl : ∀ r ∈ l, okEnt r) :
    Calls Tryd.prog 4 #[.agg #[.int .i64 c.nodes, .int .i64 c.blocks, .int .i64 c.tokens, .int .i64 c.sets, .int .i64 c.ways, .int .i64 c.cap, .int .i64 c.wait, .int .i64 c.tries, .int .i64 c.policy], .slice A n k] w fun e w' => e = .returned (.bool true) ∧ Below w.heap.size w w' :=
  walk_of_con cPrints_ok (c, l) trivial rfl rfl rfl hst [_, _] ⟨rv_cfg hc, rv_ents hst R hl, trivial⟩
theorem TextBack_walk (w : World) (hst : St w) (c : Cfg) (hc : okCfg c) (A : Option Addr) (n k : Nat) (l : List Ent) (R : Rdc Ent.cs 5 w A n k l) (hl : ∀ r ∈ l, okEnt r) :
    Calls Tryd.prog 5 #[.agg #[.int .i64 c.nodes, .int .i64 c.blocks, .int .i64 c.tokens, .int .i64 c.sets, .int .i64 c.ways, .int .i64 c.cap, .int .i64 c.wait, .int .i64 c.tries, .int .i64 c.policy], .slice A n k] w fun e w' => e = .returned (.bool true) ∧ Below w.heap.size w w' :=
  walk_of_con cBack_ok (c, l) trivial rfl rfl rfl hst [_, _] ⟨rv_cfg hc, rv_ents hst R hl, trivial⟩
theorem TextShows_walk (w : World) (hst : St w) (A : Option Addr) (n k : Nat) (l : List Don) (R : Rdc Don.cs 7 w A n k l) (hl : ∀ r ∈ l, okDon r) :
    Calls Tryd.prog 7 #[.slice A n k] w fun e w' => e = .returned (.bool true) ∧ Below w.heap.size w w' :=
  walk_of_con cShows_ok l trivial rfl rfl rfl hst [_] ⟨rv_dons hst R hl, trivial⟩
end Go.Proofs.YtpkidbhpfohopaaDoor
