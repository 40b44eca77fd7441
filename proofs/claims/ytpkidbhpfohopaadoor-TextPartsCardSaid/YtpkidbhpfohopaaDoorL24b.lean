/- Layer 24's walk of TextParts. No condition. -/
import Derived.Test.YtpkidbhpfohopaaDoorB24
import Derived.Test.YtpkidbhpfohopaaDoorN18
noncomputable section
namespace Go.Proofs.YtpkidbhpfohopaaDoor
open Go.RowKit
set_option linter.unusedVariables false
theorem TextParts_walk (w : World) (hst : St w) (c : Cfg) (hc : okCfg c) (A : Option Addr) (n k : Nat) (a : List Ent) (R : Rdc Ent.cs 5 w A n k a) (ha : ∀ r ∈ a, okEnt r) (B : Option Addr) (m j : Nat) (b : List Ent) (Q : Rdc Ent.cs 5 w B m j b) (hb : ∀ r ∈ b, okEnt r) :
    Calls Tryd.prog 8 #[.agg #[.int .i64 c.nodes, .int .i64 c.blocks, .int .i64 c.tokens, .int .i64 c.sets, .int .i64 c.ways, .int .i64 c.cap, .int .i64 c.wait, .int .i64 c.tries, .int .i64 c.policy], .slice A n k, .slice B m j] w fun e w' => e = .returned (.bool true) ∧ Below w.heap.size w w' :=
  walk_of_con cParts_ok (c, a, b) trivial rfl rfl rfl hst [_, _, _] ⟨rv_cfg hc, rv_ents hst R ha, rv_ents hst Q hb, trivial⟩
end Go.Proofs.YtpkidbhpfohopaaDoor
