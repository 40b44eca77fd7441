/- Contracts from what was walked by hand: plain values only. No condition. -/
import Derived.Test.YtpjdicndjakeoaaE24
namespace Go.Proofs.Ytpjdicndjakeoaa
open Go.RowKit
set_option linter.unusedVariables false
set_option linter.unusedSimpArgs false
theorem aTT {P : Prop} (h : P) : True ∧ (True → P) := ⟨trivial, fun _ => h⟩
theorem aTB {P : Prop} (h : P) : True ∧ (true = true → P) := ⟨trivial, fun _ => h⟩
theorem aT {P : Prop} (h : P) : True ∧ P := ⟨trivial, h⟩
theorem aB {P : Prop} (h : P) : true = true ∧ P := ⟨rfl, h⟩
theorem a11 {P Q : Prop} (h : P) : (true = true → P) ∧ (true = false → Q) := ⟨fun _ => h, fun h => (nomatch h)⟩
theorem a10 {P Q : Prop} (h : Q) : (true = false → P) ∧ (true = true → Q) := ⟨fun h => (nomatch h), fun _ => h⟩
theorem a01 {P Q : Prop} (h : Q) : (false = true → P) ∧ (false = false → Q) := ⟨fun h => (nomatch h), fun _ => h⟩
theorem a00 {P Q : Prop} (h : P) : (false = false → P) ∧ (false = true → Q) := ⟨fun _ => h, fun h => (nomatch h)⟩
theorem iTr {P : Prop} (h : P) : True → P := fun _ => h
theorem iB {P : Prop} (h : P) : true = true → P := fun _ => h
def hp0 : Heap := ⟨0, []⟩
def val1 : AV → Value
  | .int k n => .int k n
  | .bool b => .bool b
  | _ => undef
def valA : AV → Value
  | .agg cs => .agg (cs.map val1).toArray
  | a => val1 a
def valV : AV → Value
  | .tup l => .tuple (l.map valA).toArray
  | a => valA a
def plain1 : AV → Bool
  | .int _ _ => true
  | .bool _ => true
  | _ => false
def plainA : AV → Bool
  | .agg cs => cs.all plain1
  | a => plain1 a
def plainV : AV → Bool
  | .tup l => l.all plainA
  | a => plainA a
def okV : AV → Prop
  | .tup l => okAs l
  | a => okA a
theorem reps_plain {C : Cx} {az : List AV} {vs : List Value} (h : Reps C az vs) (hp : az.all plain1 = true) : vs = az.map val1 := by
  induction h with
  | nil => rfl
  | int a b h ih => simp only [List.all_cons, Bool.and_eq_true] at hp; rw [ih hp.2]; rfl
  | bool h ih => simp only [List.all_cons, Bool.and_eq_true] at hp; rw [ih hp.2]; rfl
  | str a h ih => simp [plain1] at hp
  | nilp h ih => simp [plain1] at hp
  | ptr a h ih => simp [plain1] at hp
  | nils h ih => simp [plain1] at hp
  | slc a h ih => simp [plain1] at hp
  | nilm h ih => simp [plain1] at hp
  | hdl a h ih => simp [plain1] at hp
  | vsl ws a b c d h ih1 ih2 => simp [plain1] at hp
  | arr a b h ih1 ih2 => simp [plain1] at hp
  | fn h ih => simp [plain1] at hp
  | vptr ws a b c d h ih1 ih2 => simp [plain1] at hp
theorem plain_reps {C : Cx} : ∀ {az : List AV}, az.all plain1 = true → okLs az → Reps C az (az.map val1)
  | [], _, _ => .nil
  | a :: az, hp, ho => by
    simp only [List.all_cons, Bool.and_eq_true] at hp
    cases a with
    | int k n =>
      obtain ⟨h1, h2⟩ := ho
      have := okN_iff.1 h1
      exact .int this.1 this.2 (plain_reps hp.2 h2)
    | bool b => exact .bool (plain_reps hp.2 ho)
    | _ => simp [plain1] at hp
theorem rv1_plain {C : Cx} {a : AV} {v : Value} (h : RV1 C a v) (hp : plainA a = true) : v = valA a := by
  cases a with
  | agg cs =>
    obtain ⟨vs, rfl, hr⟩ := h
    rw [reps_plain hr hp]; rfl
  | int k n => have := reps_plain (az := [.int k n]) h rfl; simpa [val1, valA] using this
  | bool b => have := reps_plain (az := [.bool b]) h rfl; simpa [val1, valA] using this
  | _ => simp [plainA, plain1] at hp
theorem plain_rv1 {C : Cx} {a : AV} (hp : plainA a = true) (ho : okA a) : RV1 C a (valA a) := by
  cases a with
  | agg cs => exact ⟨_, rfl, plain_reps hp ho⟩
  | int k n => exact plain_reps (az := [.int k n]) rfl ho
  | bool b => exact plain_reps (az := [.bool b]) rfl ho
  | _ => simp [plainA, plain1] at hp
theorem rvs_plain {C : Cx} : ∀ {az : List AV} {vs : List Value}, RVs C az vs → az.all plainA = true → vs = az.map valA
  | [], [], _, _ => rfl
  | a :: az, v :: vs, h, hp => by
    simp only [List.all_cons, Bool.and_eq_true] at hp
    rw [rv1_plain h.1 hp.1, rvs_plain h.2 hp.2]; rfl
  | [], _ :: _, h, _ => h.elim
  | _ :: _, [], h, _ => h.elim
theorem plain_rvs {C : Cx} : ∀ {az : List AV}, az.all plainA = true → okAs az → RVs C az (az.map valA)
  | [], _, _ => trivial
  | a :: az, hp, ho => by
    simp only [List.all_cons, Bool.and_eq_true] at hp
    exact ⟨plain_rv1 hp.1 ho.1, plain_rvs hp.2 ho.2⟩
theorem plain_rv {C : Cx} {a : AV} (hp : plainV a = true) (ho : okV a) : RV C a (valV a) := by
  cases a with
  | tup l => exact ⟨_, rfl, plain_rvs hp ho⟩
  | agg cs => exact plain_rv1 (a := .agg cs) hp ho
  | int k n => exact plain_rv1 (a := .int k n) hp ho
  | bool b => exact plain_rv1 (a := .bool b) hp ho
  | _ => simp [plainV, plainA, plain1] at hp
theorem con_of_calls {P : Program} {f : FuncId} {fn : Func} {code : Code} (hf : P.funcs[f]? = some fn) (hname : (fn.name == "runtime.NumGoroutine") = false) (hb : fn.body = some code) (c : Con)
    (hh : ∀ x, c.heap x = hp0 ∧ c.heap' x = hp0) (hpl : ∀ x, (c.args x).all plainA = true) (hr : ∀ x, c.pre x → okAs (c.args x) → plainV (c.res x) = true ∧ okV (c.res x))
    (calls : ∀ x w, c.pre x → okAs (c.args x) → Calls P f ((c.args x).map valA).toArray w fun e w' => e = .returned (valV (c.res x)) ∧ Below w.heap.size w w') : c.Ok P f := by
  have hno : ∀ x id k, (c.heap x).get id = some k → False := fun x id k h => by
    rw [(hh x).1] at h
    cases h
  refine ⟨fun args w => Go.MuLone.run_callFunc_enter hf hname hb args w, fun x id k h => (hno x id k h).elim, fun _ x => ⟨by rw [(hh x).1, (hh x).2], fun id k h => (hno x id k h).elim⟩, fun x hpre F φ w vs hR hv => ?_⟩
  have e := rvs_plain hv (hpl x)
  have ho := okAs_of hv
  subst e
  refine (calls x w hpre ho).mono fun e w' ⟨he, hbl⟩ => ?_
  obtain ⟨g1, g2⟩ := hR.below hbl
  obtain ⟨h1, h2⟩ := hr x hpre ho
  refine ⟨_, he, φ, plain_rv h1 h2, ?_, ?_⟩
  · show Rel F φ (c.heap' x) w'
    rw [(hh x).2, ← (hh x).1]; exact g1
  · show Ext F φ (c.heap x) w φ (c.heap' x) w'
    rw [(hh x).2, ← (hh x).1]; exact g2
end Go.Proofs.Ytpjdicndjakeoaa
