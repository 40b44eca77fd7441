/- The engine: regions. No condition. -/
import Derived.Test.YtpjdicndjakeoaaE19
import Derived.Deep.LoopGhost
namespace Go.Proofs.Ytpjdicndjakeoaa
open Go.RowKit
set_option linter.unusedVariables false
set_option linter.unusedSimpArgs false
abbrev Tmps := List (Nat × AV)
def lookT : Tmps → Nat → AV
  | [], _ => .undef
  | (i, a) :: r, k => bif Nat.beq i k then a else lookT r k
def ofConst : Value → AV
  | .int k n => bif decide (k.min ≤ n) && decide (n ≤ k.max) then .int k n else .undef
  | .bool b => .bool b
  | .string s => bif decide (s.size ≤ 9223372036854775807) then .str s else .undef
  | .pointer none => .nilp
  | .slice none 0 0 => .nils
  | _ => .undef
def rho (T : Tmps) : Operand → AV
  | .tmp t => lookT T t
  | .const v => ofConst v
  | .global _ => .undef
  | .func f => .fn f
def forceN (n : Nat) (K : Nat → Prop) : Prop :=
  Nat.casesOn n (K 0) fun n => Nat.casesOn n (K 1) fun n => Nat.casesOn n (K 2) fun n => Nat.casesOn n (K 3) fun n => Nat.casesOn n (K 4) fun n => Nat.casesOn n (K 5) fun n => Nat.casesOn n (K 6) fun n => Nat.casesOn n (K 7) fun n => 
  Nat.casesOn n (K 8) fun n => Nat.casesOn n (K 9) fun n => Nat.casesOn n (K 10) fun n => Nat.casesOn n (K 11) fun n => Nat.casesOn n (K 12) fun n => Nat.casesOn n (K 13) fun n => Nat.casesOn n (K 14) fun n => Nat.casesOn n (K 15) fun n => 
  Nat.casesOn n (K 16) fun n => Nat.casesOn n (K 17) fun n => Nat.casesOn n (K 18) fun n => Nat.casesOn n (K 19) fun n => Nat.casesOn n (K 20) fun n => Nat.casesOn n (K 21) fun n => Nat.casesOn n (K 22) fun n => Nat.casesOn n (K 23) fun n => 
  Nat.casesOn n (K 24) fun n => Nat.casesOn n (K 25) fun n => Nat.casesOn n (K 26) fun n => Nat.casesOn n (K 27) fun n => Nat.casesOn n (K 28) fun n => Nat.casesOn n (K 29) fun n => Nat.casesOn n (K 30) fun n => Nat.casesOn n (K 31) fun n => 
  Nat.casesOn n (K 32) fun n => Nat.casesOn n (K 33) fun n => Nat.casesOn n (K 34) fun n => Nat.casesOn n (K 35) fun n => Nat.casesOn n (K 36) fun n => Nat.casesOn n (K 37) fun n => Nat.casesOn n (K 38) fun n => Nat.casesOn n (K 39) fun n => 
  K (n + 40)
theorem forceN_eq (n : Nat) (K : Nat → Prop) : forceN n K = K n := by
  iterate 40 (cases n with
    | zero => rfl
    | succ n => ?_)
  rfl
def forceP (p : Path) (K : Path → Prop) : Prop :=
  match p with
  | ⟨i, s, k, none⟩ => forceN s fun s => forceN k fun k => K ⟨i, s, k, none⟩
  | ⟨i, s, k, some (j, t)⟩ => forceN s fun s => forceN k fun k => forceN t fun t => K ⟨i, s, k, some (j, t)⟩
theorem forceP_eq (p : Path) (K : Path → Prop) : forceP p K = K p := by
  obtain ⟨i, s, k, j⟩ := p
  cases j with
  | none => simp only [forceP, forceN_eq]
  | some x => obtain ⟨j, t⟩ := x; simp only [forceP, forceN_eq]
def force1 (v : AV) (K : AV → Prop) : Prop :=
  match v with
  | .undef => K .undef
  | .int k n => K (.int k n)
  | .bool b => K (.bool b)
  | .str s => K (.str s)
  | .nilp => K .nilp
  | .ptr id p => forceN id fun id => forceP p fun p => K (.ptr id p)
  | .nils => K .nils
  | .slc id => forceN id fun id => K (.slc id)
  | .nilm => K .nilm
  | .hdl k id => forceN id fun id => K (.hdl k id)
  | .vsl t xs => K (.vsl t xs)
  | .arr n t xs => K (.arr n t xs)
  | .fn f => K (.fn f)
  | .vptr t x k => forceN k fun k => K (.vptr t x k)
  | .agg cs => K (.agg cs)
  | .tup vs => K (.tup vs)
theorem force1_eq (v : AV) (K : AV → Prop) : force1 v K = K v := by cases v <;> simp only [force1, forceN_eq, forceP_eq]
def forceL (l : List AV) (K : List AV → Prop) : Prop :=
  match l with
  | [] => K []
  | a :: as => force1 a fun a => forceL as fun as => K (a :: as)
theorem forceL_eq : ∀ (l : List AV) (K : List AV → Prop), forceL l K = K l
  | [], K => rfl
  | a :: as, K => by simp only [forceL, force1_eq, forceL_eq as]
def forceA (v : AV) (K : AV → Prop) : Prop :=
  match v with
  | .agg cs => forceL cs fun cs => K (.agg cs)
  | v => force1 v K
theorem forceA_eq (v : AV) (K : AV → Prop) : forceA v K = K v := by cases v <;> simp only [forceA, force1_eq, forceL_eq]
def forceAs (l : List AV) (K : List AV → Prop) : Prop :=
  match l with
  | [] => K []
  | a :: as => forceA a fun a => forceAs as fun as => K (a :: as)
theorem forceAs_eq : ∀ (l : List AV) (K : List AV → Prop), forceAs l K = K l
  | [], K => rfl
  | a :: as, K => by simp only [forceAs, forceA_eq, forceAs_eq as]
def forceAV (v : AV) (K : AV → Prop) : Prop :=
  match v with
  | .tup vs => forceAs vs fun vs => K (.tup vs)
  | v => forceA v K
theorem force_eq (v : AV) (K : AV → Prop) : forceAV v K = K v := by cases v <;> simp only [forceAV, forceA_eq, forceAs_eq]
def forceB (b : Option Blk) (K : Option Blk → Prop) : Prop :=
  match b with
  | none => K none
  | some (.obj ro cs) => forceL cs fun cs => K (some (.obj ro cs))
  | some (.seq ro e t xs) => K (some (.seq ro e t xs))
  | some (.map ro t es) => K (some (.map ro t es))
theorem forceB_eq (b : Option Blk) (K : Option Blk → Prop) : forceB b K = K b := by
  match b with
  | none => rfl
  | some (.obj ro cs) => simp only [forceB, forceL_eq]
  | some (.seq ro e t xs) => rfl
  | some (.map ro t es) => rfl
/-- The blocks, each once, the newest first. -/
def forceHL (l : List (Nat × Option Blk)) (K : List (Nat × Option Blk) → Prop) : Prop :=
  match l with
  | [] => K []
  | (i, b) :: r => forceN i fun i => forceB b fun b => forceHL r fun r => K ((i, b) :: r)
theorem forceHL_eq : ∀ (l : List (Nat × Option Blk)) (K : List (Nat × Option Blk) → Prop), forceHL l K = K l
  | [], K => rfl
  | (i, b) :: r, K => by simp only [forceHL, forceN_eq, forceB_eq, forceHL_eq r]
def forceH (H : Heap) (K : Heap → Prop) : Prop :=
  match H with
  | ⟨n, l⟩ => forceN n fun n => forceHL l fun l => K ⟨n, l⟩
theorem forceH_eq (H : Heap) (K : Heap → Prop) : forceH H K = K H := by
  obtain ⟨n, l⟩ := H
  simp only [forceH, forceN_eq, forceHL_eq]
def forceT (T : Tmps) (K : Tmps → Prop) : Prop :=
  match T with
  | [] => K []
  | (i, a) :: r => forceN i fun i => forceA a fun a => forceT r fun r => K ((i, a) :: r)
theorem forceT_eq : ∀ (T : Tmps) (K : Tmps → Prop), forceT T K = K T
  | [], K => rfl
  | (i, a) :: r, K => by simp only [forceT, forceN_eq, forceA_eq, forceT_eq r]
def putK (N : Nat) (dst : Option Tmp) (v : AV) (T : Tmps) (K : Tmps → Prop) : Prop :=
  match dst with
  | none => K T
  | some d => bif Nat.blt d N then forceAV v fun v => K ((d, v) :: T) else False
/-- A slice of which only the elements are known is asked whether it is nil: either may be; if it is, it has none. -/
def nilLen (H : Heap) : AV → Option Nat
  | .vsl _ xs => some xs.length
  | .slc id => match H.get id with
    | some (.seq _ _ _ xs) => some xs.length
    | _ => none
  | _ => none
def nilAsk (E : Env) (T : Tmps) (H : Heap) : Op → Option Nat
  | .binOp op t x y _ => match op with
    | .eql => match rho T y with
      | .nils => match E.T t with
        | some i => match i.k with
          | .slice _ => nilLen H (rho T x)
          | _ => none
        | none => none
      | _ => none
    | _ => none
  | _ => none
def opK (E : Env) (N : Nat) (o : Oper) (T : Tmps) (H : Heap) (K : Tmps → Heap → Prop) : Prop :=
  match opD E o.op (rho T) H with
  | some ⟨need, know, v, H'⟩ => need ∧ (know → putK N o.dst v T fun T' => forceH H' fun H' => K T' H')
  | none => match nilAsk E T H o.op with
    | some n => (n = 0 → putK N o.dst (.bool true) T fun T' => K T' H) ∧ putK N o.dst (.bool false) T fun T' => K T' H
    | none => False
def dstOf (ops : List Oper) (j : Nat) : Option Tmp :=
  match ops[j]? with
  | some o => o.dst
  | none => none
def regD (E : Env) (N : Nat) (ops : List Oper) : List Oper → Tmps → Heap → (Tmps → Heap → Prop) → Prop
  | [], T, H, K => K T H
  | o :: rest, T, H, K => match o.guard with
    | none => opK E N o T H fun T H => regD E N ops rest T H K
    | some (j, want) => match dstOf ops j with
      | none => False
      | some d => match lookT T d with
        | .bool b => bif Nat.blt d N then (b = want → opK E N o ((d, .bool want) :: T) H fun T H => regD E N ops rest T H K) ∧ (b = (!want) → putK N o.dst (.tup []) ((d, .bool (!want)) :: T) fun T => regD E N ops rest T H K) else False
        | .tup [] => putK N o.dst (.tup []) T fun T => regD E N ops rest T H K
        | _ => False
/-- The temporaries. -/
structure TRel (F : Nat → Prop) (φ : Nat → RS) (H : Heap) (w : World) (N : Nat) (T : Tmps) (a : Act) : Prop where
  size : a.tmps.size = N
  get : ∀ t, RV (cx F φ H w) (lookT T t) (a.tmps.getD t undef)
  defers : a.defers = []
section
variable {P : Program} {E : Env} {F : Nat → Prop} {φ : Nat → RS} {H : Heap} {w : World} {N : Nat} {T : Tmps} {a : Act}
theorem rv_undef {C : Cx} (v : Value) : RV C .undef v := trivial
theorem rho_ok (h : TRel F φ H w N T a) (x : Operand) : RV (cx F φ H w) (rho T x) (a.eval x) := by
  cases x with
  | tmp t => exact h.get t
  | const v =>
    simp only [rho, Act.eval]
    unfold ofConst
    split
    · rw [Bool.cond_eq_ite]
      split
      · rename_i hc
        simp only [Bool.and_eq_true, decide_eq_true_eq] at hc
        exact rv_int hc
      · trivial
    · exact rv_bool _
    · rw [Bool.cond_eq_ite]
      split
      · rename_i hc
        exact Reps.str (by simpa [maxLen] using hc) .nil
      · trivial
    · exact Reps.nilp .nil
    · exact Reps.nils .nil
    · trivial
  | global g => trivial
  | func f => exact Reps.fn .nil
theorem TRel.mono {φ' : Nat → RS} {H' : Heap} {w' : World} (h : TRel F φ H w N T a) (le : (cx F φ H w).Le (cx F φ' H' w')) : TRel F φ' H' w' N T a := ⟨h.size, fun t => (h.get t).mono le, h.defers⟩
theorem lookT_cons (d t : Nat) (v : AV) (T : Tmps) : lookT ((d, v) :: T) t = if t = d then v else lookT T t := by
  rw [lookT]
  by_cases e : t = d
  · rw [if_pos e, e, Nat.beq_refl]; rfl
  · rw [if_neg e]
    have : Nat.beq d t = false := by cases hb : Nat.beq d t with | false => rfl | true => exact absurd (Nat.eq_of_beq_eq_true hb).symm e
    rw [this]; rfl
theorem TRel.put (h : TRel F φ H w N T a) {d : Nat} (hd : d < N) {v : AV} {u : Value} (hv : RV (cx F φ H w) v u) : TRel F φ H w N ((d, v) :: T) (a.put (some d) u) := by
  refine ⟨by simp [Act.put, h.size], fun t => ?_, h.defers⟩
  rw [lookT_cons]
  by_cases e : t = d
  · subst e
    rw [if_pos rfl]
    have : (a.put (some t) u).tmps.getD t undef = u := by simp [Act.put, Array.getD_eq_getD_getElem?, h.size, hd]
    rw [this]
    exact hv
  · rw [if_neg e]
    have : (a.put (some d) u).tmps.getD t undef = a.tmps.getD t undef := by
      simp only [Act.put, Array.getD_eq_getD_getElem?]
      rw [Array.getElem?_setIfInBounds_ne (Ne.symm e)]
    rw [this]
    exact h.get t
theorem putK_ok (h : TRel F φ H w N T a) {dst : Option Tmp} {v : AV} {u : Value} (hv : RV (cx F φ H w) v u) {K : Tmps → Prop} (hk : putK N dst v T K) : ∃ T', K T' ∧ TRel F φ H w N T' (a.put dst u) := by
  unfold putK at hk
  cases dst with
  | none => exact ⟨T, hk, h⟩
  | some d =>
    simp only [Bool.cond_eq_ite] at hk
    split at hk
    · rename_i hd
      rw [force_eq] at hk
      exact ⟨_, hk, h.put (by simpa using hd) hv⟩
    · exact hk.elim
/-- Where a test's outcome is known, its temporary holds it. -/
theorem TRel.known (h : TRel F φ H w N T a) {d : Nat} {b c : Bool} (hl : lookT T d = .bool b) (hb : b = c) : TRel F φ H w N ((d, .bool c) :: T) a := by
  refine ⟨h.size, fun t => ?_, h.defers⟩
  rw [lookT_cons]
  split
  · rename_i e
    subst e
    have := h.get t
    rw [hl, hb] at this
    exact this
  · exact h.get t
theorem opK_ok (hE : E.Ok P) (hR : Rel F φ H w) (hT : TRel F φ H w N T a) {o : Oper} {K : Tmps → Heap → Prop} (h : opK E N o T H K) : ∃ r : Res, Give P (Post F φ H w r) ((execOp a.eval o).run P w) ∧ putK N o.dst r.v T fun T' => K T' r.H := by
  unfold opK at h
  split at h
  · rename_i need know v H' hr
    obtain ⟨h1, h2⟩ := h
    obtain ⟨h3, h4⟩ := op_ok hE hR (rho_ok hT) hr h1
    have := h2 h3
    simp only [forceH_eq] at this
    exact ⟨_, h4, this⟩
  · split at h
    · rename_i n hn
      unfold nilAsk at hn
      split at hn
      · rename_i op t x y z hop
        split at hn
        · split at hn
          · rename_i hy
            split at hn
            · rename_i i hTi
              split at hn
              · rename_i e hk
                obtain ⟨d, hd, -, hkk⟩ := (hE.T _ _ hTi).und
                rw [hk] at hkk
                subst hkk
                have hu := rho_ok hT x
                have hv := rho_ok hT y
                rw [hy] at hv
                have hv := rv_nils_inv hv
                obtain ⟨A, m, c, hu', hm⟩ : ∃ A m c, a.eval x = .slice A m c ∧ (A = none → n = 0) := by
                  unfold nilLen at hn
                  split at hn
                  · rename_i ty xs hx
                    injection hn with hn
                    rw [hx] at hu
                    obtain ⟨A, c, hu', h1, h2, -⟩ := rv_vsl_inv hu
                    exact ⟨A, _, c, hu', fun h => by have := h2.2 h; omega⟩
                  · rename_i id hx
                    split at hn
                    · rename_i ro e t xs hg
                      injection hn with hn
                      rw [hx] at hu
                      obtain ⟨hu', -⟩ := rv_slc_inv hu
                      obtain ⟨-, A, c, h1, h2, h3, -⟩ := seq_len hR hg
                      exact ⟨A, _, c, by rw [hu']; exact h1, fun h => by have := h2 h; omega⟩
                    · cases hn
                  · cases hn
                have he : (Op.equal t (.slice A m c) (.slice none 0 0)).run P w = .ok A.isNone w := by
                  have : ∀ d, (Op.equalIn (d + 1) t (.slice A m c) (.slice none 0 0)).run P w = .ok A.isNone w := fun d => by cases A <;> simp [Op.equalIn, run_underlying hd]
                  exact this 9999
                refine ⟨⟨True, True, .bool A.isNone, H⟩, ?_, ?_⟩
                · unfold execOp
                  rw [hop]
                  refine give_v (v := .bool A.isNone) ?_ (post_same hR (rv_bool _))
                  rw [hu', hv, eqGuard_at_slice]
                  simp [binOp, he]
                · cases A with
                  | none => exact h.1 (hm rfl)
                  | some A => exact h.2
              · cases hn
            · cases hn
          · cases hn
        · cases hn
      · cases hn
    · exact h.elim
theorem yielded_get {ops : Array Oper} {j d : Nat} {b : Bool} (hd : dstOf ops.toList j = some d) (ht : a.tmps.getD d undef = .bool b) (hs : d < a.tmps.size) : yielded ops a.tmps j = some b := by
  unfold dstOf at hd
  split at hd
  · rename_i o ho
    have ho' : ops[j]? = some o := by rw [← ho]; simp
    have ht' : a.tmps[d]? = some (.bool b) := by
      rw [Array.getD_eq_getD_getElem?, Array.getElem?_eq_getElem hs] at ht
      rw [Array.getElem?_eq_getElem hs]
      simpa using ht
    simp [yielded, ho', hd, ht']
  · cases hd
theorem yielded_none {ops : Array Oper} {j d : Nat} (hd : dstOf ops.toList j = some d) (ht : a.tmps.getD d undef = undef) : yielded ops a.tmps j = none := by
  unfold dstOf at hd
  split at hd
  · rename_i o ho
    have ho' : ops[j]? = some o := by rw [← ho]; simp
    cases e : a.tmps[d]? with
    | none => simp [yielded, ho', hd, e]
    | some v =>
      rw [Array.getD_eq_getD_getElem?, e] at ht
      have ht : v = undef := ht
      subst ht
      simp [yielded, ho', hd, e, undef]
  · cases hd
theorem rv_skip {C : Cx} : RV C (.tup []) undef := ⟨[], rfl, trivial⟩
/-- The invariant of a walk: all that has been and what is. -/
structure Base (F : Nat → Prop) (φ0 : Nat → RS) (H0 : Heap) (w0 : World) (φ : Nat → RS) (H : Heap) (w : World) : Prop where
  rel : Rel F φ H w
  ext : Ext F φ0 H0 w0 φ H w
  lt0 : ∀ id k, H0.get id = some k → id < H0.n
variable {φ0 : Nat → RS} {H0 : Heap} {w0 : World}
theorem reg_ok (hE : E.Ok P) {ops : Array Oper} {Q : Exit → Act → World → Prop} : ∀ (rest : List Oper) (T : Tmps) (H : Heap) (φ : Nat → RS) (w : World) (a : Act) (K : Tmps → Heap → Prop), regD E N ops.toList rest T H K → Base F φ0 H0 w0 φ H w → TRel F φ H w N T a →
    (∀ T' H' φ' w' a', K T' H' → Base F φ0 H0 w0 φ' H' w' → TRel F φ' H' w' N T' a' → Q .normal a' w') → wpList P ops Q rest a w
  | [], T, H, φ, w, a, K, h, hB, hT, hQ => hQ T H φ w a h hB hT
  | o :: rest, T, H, φ, w, a, K, h, hB, hT, hQ => by
    rw [regD] at h
    have step : ∀ (T1 : Tmps) (a1 : Act), TRel F φ H w N T1 a1 → opK E N o T1 H (fun T H => regD E N ops.toList rest T H K) → o.wp P a1 w (wpList P ops Q rest) Q := fun T1 a1 hT1 ho => by
      obtain ⟨r, h1, h2⟩ := opK_ok hE hB.rel hT1 ho
      refine upon_of_give h1 fun v w' ⟨φ', hv, hR', hX'⟩ => ?_
      obtain ⟨T', h3, h4⟩ := putK_ok (hT1.mono hX'.le) hv h2
      exact reg_ok hE rest T' r.H φ' w' _ K h3 ⟨hR', hB.ext.trans hX', hB.lt0⟩ h4 hQ
    unfold wpList
    split at h
    · rename_i hg
      have hw : Region.wanted o (yielded ops a.tmps) = true := by simp [Region.wanted, hg]
      rw [if_pos hw]
      exact .inl (step T a hT h)
    · rename_i j want hg
      split at h
      · exact h.elim
      · rename_i d hd
        split at h
        · rename_i b hb
          rw [Bool.cond_eq_ite] at h
          split at h
          · rename_i hlt
            have hlt : d < N := by simpa using hlt
            have hv := rv_bool_inv (by have := hT.get d; rwa [hb] at this)
            have hy := yielded_get hd hv (by rw [hT.size]; exact hlt)
            have hw : Region.wanted o (yielded ops a.tmps) = (b == want) := by simp [Region.wanted, hg, hy]
            rw [hw]
            by_cases e : b = want
            · rw [if_pos (by simpa using e)]
              exact .inl (step _ a (hT.known hb e) (h.1 e))
            · rw [if_neg (by simpa using e)]
              have e' : b = !want := by cases b <;> cases want <;> simp_all
              obtain ⟨T', h3, h4⟩ := putK_ok (hT.known hb e') rv_skip (h.2 e')
              exact reg_ok hE rest T' H φ w _ K h3 hB h4 hQ
          · exact h.elim
        · rename_i hb
          have hv := hT.get d
          rw [hb] at hv
          obtain ⟨vs, e, hr⟩ := hv
          have e0 : vs = [] := by cases vs <;> first | rfl | exact hr.elim
          subst e0
          have hy := yielded_none hd e
          have hw : Region.wanted o (yielded ops a.tmps) = false := by simp [Region.wanted, hg, hy]
          rw [hw, if_neg (by decide)]
          obtain ⟨T', h3, h4⟩ := putK_ok hT rv_skip h
          exact reg_ok hE rest T' H φ w _ K h3 hB h4 hQ
        · exact h.elim
/-! ### regions that draw their order -/
def Blk.lock : Blk → Blk
  | .obj _ cs => .obj true cs
  | .seq _ e t xs => .seq true e t xs
  | .map _ t es => .map true t es
def lockL : List (Nat × Option Blk) → List (Nat × Option Blk)
  | [] => []
  | (i, none) :: r => (i, none) :: lockL r
  | (i, some b) :: r => (i, some b.lock) :: lockL r
def Heap.lock (H : Heap) : Heap := ⟨H.n, lockL H.l⟩
theorem lock_get (H : Heap) (id : Nat) : H.lock.get id = (H.get id).map Blk.lock := by
  obtain ⟨n, l⟩ := H
  simp only [Heap.get, Heap.lock]
  induction l with
  | nil => rfl
  | cons x l ih =>
    obtain ⟨i, b⟩ := x
    cases b <;> simp only [lockL, lookH] <;> cases Nat.beq i id <;> first | rfl | exact ih
theorem lock_ro (k : Blk) : k.lock.ro = true := by cases k <;> rfl
theorem lock_mut {b : Nat} : Mut φ H.lock b ↔ Mut φ H b := by
  constructor
  · rintro ⟨id, k, h1, h2⟩
    rw [lock_get, Option.map_eq_some_iff] at h1
    obtain ⟨k', h1, -⟩ := h1
    exact ⟨id, k', h1, h2⟩
  · rintro ⟨id, k, h1, h2⟩
    exact ⟨id, k.lock, by rw [lock_get, h1]; rfl, h2⟩
theorem lock_wr {b : Nat} : ¬ Wr φ H.lock b := by
  rintro ⟨id, k, h1, h2, -⟩
  rw [lock_get, Option.map_eq_some_iff] at h1
  obtain ⟨k', -, rfl⟩ := h1
  rw [lock_ro] at h2
  cases h2
theorem lock_le : (cx F φ H w).Le (cx F φ H.lock w) := ⟨fun _ _ => rfl, Nat.le_refl _, fun b _ hm h => hm (h.elim (fun h => .inl (lock_mut.1 h)) .inr), Nat.le_refl _, fun _ _ _ => rfl, fun b _ _ => lock_wr⟩
theorem Rel.lock (h : Rel F φ H w) : Rel F φ H.lock w := by
  have old : ∀ id k, H.lock.get id = some k → ∃ k', H.get id = some k' ∧ k = k'.lock := fun id k hk => by
    rw [lock_get, Option.map_eq_some_iff] at hk
    obtain ⟨k', h1, h2⟩ := hk
    exact ⟨k', h1, h2.symm⟩
  refine ⟨fun id k hk => ?_, fun id k hk => ?_, fun id id' k k' hk hk' => ?_, fun id k hk => ?_, h.flt⟩
  · obtain ⟨k', h1, -⟩ := old id k hk
    exact h.lt _ _ h1
  · obtain ⟨k', h1, rfl⟩ := old id k hk
    have := (h.blk _ _ h1).mono lock_le (fun _ => rfl)
    cases k' <;> exact this
  · obtain ⟨_, h1, -⟩ := old id k hk
    obtain ⟨_, h2, -⟩ := old id' k' hk'
    exact h.inj _ _ _ _ h1 h2
  · obtain ⟨_, h1, -⟩ := old id k hk
    exact h.forb _ _ h1
def closed1 (n : Nat) : AV → Bool
  | .ptr id _ => Nat.blt id n
  | .slc id => Nat.blt id n
  | .hdl _ id => Nat.blt id n
  | _ => true
def closeA (n : Nat) (H : Heap) : AV → Option AV
  | .slc id => bif Nat.blt id n then some (.slc id) else match H.get id with
    | some (.seq _ _ t xs) => some (.vsl t xs)
    | _ => none
  | .ptr id p => bif Nat.blt id n then some (.ptr id p) else none
  | .hdl k id => bif Nat.blt id n then some (.hdl k id) else none
  | .agg cs => bif cs.all (closed1 n) then some (.agg cs) else none
  | .tup _ => none
  | a => some a
def closeAs (n : Nat) (H : Heap) : List AV → Option (List AV)
  | [] => some []
  | a :: as => match closeA n H a with
    | some b => match closeAs n H as with
      | some bs => some (b :: bs)
      | none => none
    | none => none
def closeV (n : Nat) (H : Heap) : AV → Option AV
  | .tup l => match closeAs n H l with
    | some bs => some (.tup bs)
    | none => none
  | a => closeA n H a
section
variable {φ' : Nat → RS} {H' : Heap} {w' : World}
theorem Reps.back {C C' : Cx} {n : Nat} (hφ : ∀ id, id < n → C'.φ id = C.φ id ∧ id < C'.n) (hm : ∀ b, b < C.w.heap.size → ¬ C.mt b → ¬ C'.mt b) (hw : C'.w = C.w) {as : List AV} {vs : List Value} (h : Reps C as vs) (hc : as.all (closed1 n) = true) : Reps C' as vs := by
  have henc : ∀ (t : Ty) (x : t.den), (enc t x).all (closed1 n) = true := fun t x => by cases t <;> rfl
  induction h with
  | nil => exact .nil
  | int a b h ih => simp only [List.all_cons, Bool.and_eq_true] at hc; exact .int a b (ih hc.2)
  | bool h ih => simp only [List.all_cons, Bool.and_eq_true] at hc; exact .bool (ih hc.2)
  | str a h ih => simp only [List.all_cons, Bool.and_eq_true] at hc; exact .str a (ih hc.2)
  | nilp h ih => simp only [List.all_cons, Bool.and_eq_true] at hc; exact .nilp (ih hc.2)
  | ptr a h ih =>
    simp only [List.all_cons, Bool.and_eq_true] at hc
    have := hφ _ (by simpa [closed1] using hc.1)
    rw [← this.1]
    exact .ptr this.2 (ih hc.2)
  | nils h ih => simp only [List.all_cons, Bool.and_eq_true] at hc; exact .nils (ih hc.2)
  | slc a h ih =>
    simp only [List.all_cons, Bool.and_eq_true] at hc
    have := hφ _ (by simpa [closed1] using hc.1)
    rw [← this.1]
    exact .slc this.2 (ih hc.2)
  | nilm h ih => simp only [List.all_cons, Bool.and_eq_true] at hc; exact .nilm (ih hc.2)
  | hdl a h ih =>
    simp only [List.all_cons, Bool.and_eq_true] at hc
    have := hφ _ (by simpa [closed1] using hc.1)
    rw [← this.1]
    exact .hdl this.2 (ih hc.2)
  | vsl ws a b c d h ih1 ih2 =>
    simp only [List.all_cons, Bool.and_eq_true] at hc
    refine .vsl ws a b (fun h0 => ?_) (fun i x hx => ih1 i x hx (henc _ x)) (ih2 hc.2)
    obtain ⟨bb, off, hA, hmm, hlt, hcc⟩ := c h0
    exact ⟨bb, off, hA, hm _ hlt hmm, by rw [hw]; exact hlt, by rw [hw]; exact hcc⟩
  | arr a b h ih1 ih2 =>
    simp only [List.all_cons, Bool.and_eq_true] at hc
    refine .arr (ih1 ?_) b (ih2 hc.2)
    rw [List.all_eq_true]
    intro x hx
    obtain ⟨y, -, hy⟩ := List.mem_flatMap.1 hx
    exact List.all_eq_true.1 (henc _ y) x hy
  | fn h ih => simp only [List.all_cons, Bool.and_eq_true] at hc; exact .fn (ih hc.2)
  | vptr ws a b c d h ih1 ih2 =>
    simp only [List.all_cons, Bool.and_eq_true] at hc
    exact .vptr ws (ih1 (henc _ _)) (hm _ c b) (by rw [hw]; exact c) (by rw [hw]; exact d) (ih2 hc.2)
/-- What was made in the meantime is but read from now on. -/
theorem closeA_ok (hR' : Rel F φ' H' w') (hX : Ext F φ H.lock w φ' H' w') (hR : Rel F φ H w) {a b : AV} {v : Value} (h : closeA H.n H' a = some b) (hv : RV1 (cx F φ' H' w') a v) : RV1 (cx F φ H w') b v := by
  have hφ : ∀ id, id < H.n → φ id = φ' id ∧ id < H.n := fun id hid => ⟨(hX.le.φ id hid).symm, hid⟩
  have hmt : ∀ (H2 : Heap), (∀ id, id < H.n → H2.get id = H'.get id) → ∀ b, ¬ (cx F φ' H2 w').mt b → ¬ (cx F φ H w').mt b := fun H2 h2 b hm => by
    rintro (⟨id, k, hk, hn, he⟩ | hf)
    · have hid := hR.lt _ _ hk
      have h3 : H.lock.get id = some k.lock := by rw [lock_get, hk]; rfl
      have h4 := hX.ro id _ h3 (lock_ro k)
      have h5 := (hφ id hid).1
      exact hm (.inl ⟨id, _, by rw [h2 id hid]; exact h4, by rw [← h5]; exact hn, by rw [← h5]; exact he⟩)
    · exact hm (.inr hf)
  have leaf : ∀ as us, as.all (closed1 H.n) = true → Reps (cx F φ' H' w') as us → Reps (cx F φ H w') as us := fun as us hc hr => Reps.back (C := cx F φ' H' w') (C' := cx F φ H w') (n := H.n) hφ (fun b _ hm => hmt H' (fun _ _ => rfl) b hm) rfl hr hc
  unfold closeA at h
  split at h
  · rename_i id
    rw [Bool.cond_eq_ite] at h
    split at h
    · rename_i hlt
      cases h
      exact leaf [.slc id] [v] (by simpa [closed1] using hlt) hv
    · rename_i hlt
      split at h
      · rename_i ro e t xs hg
        cases h
        have hf := freeze_ok hR' hg
        have hvv := (rv_slc_inv (rv_of_rv1 hv)).1
        subst hvv
        refine Reps.back (C := cx F φ' (H'.put id none) w') (C' := cx F φ H w') (n := 0) (fun id hid => absurd hid (Nat.not_lt_zero _)) (fun b _ hm => ?_) rfl hf rfl
        refine hmt (H'.put id none) (fun id' hid' => Heap.get_put_ne _ _ (fun e => ?_)) b hm
        subst e
        exact hlt (by simpa using hid')
      · cases h
  · rename_i id p
    rw [Bool.cond_eq_ite] at h
    split at h
    · rename_i hlt
      cases h
      exact leaf [.ptr id p] [v] (by simpa [closed1] using hlt) hv
    · cases h
  · rename_i k id
    rw [Bool.cond_eq_ite] at h
    split at h
    · rename_i hlt
      cases h
      exact leaf [.hdl k id] [v] (by simpa [closed1] using hlt) hv
    · cases h
  · rename_i cs
    rw [Bool.cond_eq_ite] at h
    split at h
    · rename_i hc
      cases h
      obtain ⟨vs, e, hr⟩ := hv
      exact ⟨vs, e, leaf cs vs hc hr⟩
    · cases h
  · cases h
  · rename_i h1 h2 h5 h3 h4
    cases h
    cases a <;> first | exact absurd rfl (h1 _) | exact absurd rfl (h2 _ _) | exact absurd rfl (h3 _) | exact absurd rfl (h4 _) | exact absurd rfl (h5 _ _) | trivial | exact leaf [_] [v] rfl hv
theorem closeAs_ok (hR' : Rel F φ' H' w') (hX : Ext F φ H.lock w φ' H' w') (hR : Rel F φ H w) : ∀ {as bs : List AV} {vs : List Value}, closeAs H.n H' as = some bs → RVs (cx F φ' H' w') as vs → RVs (cx F φ H w') bs vs
  | [], bs, [], h, hv => by cases h; trivial
  | [], bs, _ :: _, h, hv => hv.elim
  | _ :: _, bs, [], h, hv => hv.elim
  | a :: as, bs, v :: vs, h, hv => by
    rw [closeAs] at h
    split at h
    · rename_i b hb
      split at h
      · rename_i bs' hbs
        cases h
        exact ⟨closeA_ok hR' hX hR hb hv.1, closeAs_ok hR' hX hR hbs hv.2⟩
      · cases h
    · cases h
theorem closeV_ok (hR' : Rel F φ' H' w') (hX : Ext F φ H.lock w φ' H' w') (hR : Rel F φ H w) {a b : AV} {v : Value} (h : closeV H.n H' a = some b) (hv : RV (cx F φ' H' w') a v) : RV (cx F φ H w') b v := by
  cases a with
  | tup l =>
    obtain ⟨vs, e, hr⟩ := hv
    rw [closeV] at h
    split at h
    · rename_i bs hbs
      cases h
      exact ⟨vs, e, closeAs_ok hR' hX hR hbs hr⟩
    · cases h
  | _ =>
    simp only [RV] at hv
    simp only [closeV] at h
    exact rv_of_rv1 (closeA_ok hR' hX hR h hv)
end
def preK (E : Env) (N : Nat) (o : Oper) (T0 T : Tmps) (H : Heap) (K : Tmps → Prop) : Prop :=
  match opD E o.op (rho T0) H.lock with
  | some ⟨need, _, v, H'⟩ => need ∧ match closeV H.n H' v with
    | some v => putK N o.dst v T K
    | none => False
  | none => False
def maskT (ops : List Oper) (deps : List Nat) (T : Tmps) : Nat → Tmps
  | 0 => T
  | i + 1 => match dstOf ops i with
    | some d => bif memB i deps then maskT ops deps T i else (d, .undef) :: maskT ops deps T i
    | none => maskT ops deps T i
def preD (E : Env) (N : Nat) (ops : List Oper) (H : Heap) : List Oper → Nat → Tmps → (Tmps → Prop) → Prop
  | [], _, T, K => K T
  | o :: rest, k, T, K => match o.guard with
    | none => preK E N o (maskT ops (depsOf o) T k) T H fun T => preD E N ops H rest (k + 1) T K
    | some (j, want) => match dstOf ops j with
      | none => False
      | some d => match lookT (maskT ops (depsOf o) T k) d with
        | .bool b => bif Nat.blt d N then (b = want → preK E N o ((d, .bool want) :: maskT ops (depsOf o) T k) ((d, .bool want) :: T) H fun T => preD E N ops H rest (k + 1) T K) ∧ (b = (!want) → putK N o.dst (.tup []) ((d, .bool (!want)) :: T) fun T => preD E N ops H rest (k + 1) T K) else False
        | .tup [] => putK N o.dst (.tup []) T fun T => preD E N ops H rest (k + 1) T K
        | _ => False
def drawD (E : Env) (N : Nat) (ops : List Oper) (m : Nat) (T : Tmps) (H : Heap) (K : Tmps → Heap → Prop) : Prop :=
  freeOk ops.toArray m = true ∧ preD E N ops H (ops.take m) 0 T fun T' => regD E N ops (ops.drop m) T' H K
/-! ### regions that draw their order and write -/
def memN (k : Nat) : List Nat → Bool
  | [] => false
  | e :: r => bif Nat.beq e k then true else memN k r
def cntW (W : List Nat) : Nat → Nat
  | 0 => 0
  | i + 1 => bif memN i W then cntW W i + 1 else cntW W i
def eqBb : Bool → Bool → Bool
  | true, b => b
  | false, b => !b
def memP (i j : Nat) : List (Nat × Nat) → Bool
  | [] => false
  | (a, b) :: r => bif Nat.beq a i && Nat.beq b j then true else memP i j r
/-- May an operation run behind so many of the writing ones? -/
def possB (ops : Array Oper) (m : Nat) (W : List Nat) (i j : Nat) : Bool :=
  (List.range m).all fun e => !memN e W || (bif Nat.blt (cntW W e) j then !reach ops 6 e i else !reach ops 6 i e)
def wrOk (N : Nat) (ops : Array Oper) (m : Nat) (W : List Nat) (Z : List (Nat × Nat)) : Bool :=
  ((List.range m).all fun i => match dstAt ops i with | none => true | some d => Nat.blt d N) &&
  ((List.range m).all fun e => !memN e W || (List.range e).all fun f => !memN f W || reach ops 6 e f) &&
  ((List.range m).all fun i => memN i W || (List.range (cntW W m + 1)).all fun j => Nat.beq j (cntW W i) || !possB ops m W i j || memP i j Z)
def stAt : List Heap → Nat → Option Heap
  | [], _ => none
  | H :: r, j => bif Nat.beq j r.length then some H else stAt r j
def planD (E : Env) (N : Nat) (ops : List Oper) (m : Nat) (W : List Nat) : List Oper → Nat → Tmps → Heap → List Heap → (Tmps → Heap → List Heap → Prop) → Prop
  | [], _, T, H, Hs, K => K T H Hs
  | o :: rest, k, T, H, Hs, K => match o.guard with
    | none => bif memN k W then (match opD E o.op (rho (maskT ops (depsOf o) T m)) H with
        | some ⟨need, _, v, H'⟩ => need ∧ putK N o.dst v T fun T => forceH H' fun H' => planD E N ops m W rest (k + 1) T H' (H :: Hs) K
        | none => False) else preK E N o (maskT ops (depsOf o) T m) T H fun T => planD E N ops m W rest (k + 1) T H Hs K
    | some (j, want) => match dstOf ops j with
      | none => False
      | some d => match lookT (maskT ops (depsOf o) T m) d with
        | .bool b => bif Nat.blt d N then (b = want → bif memN k W then (match opD E o.op (rho ((d, .bool want) :: maskT ops (depsOf o) T m)) H with
            | some ⟨need, _, v, H'⟩ => need ∧ putK N o.dst v ((d, .bool want) :: T) fun T => forceH H' fun H' => planD E N ops m W rest (k + 1) T H' (H :: Hs) K
            | none => False) else preK E N o ((d, .bool want) :: maskT ops (depsOf o) T m) ((d, .bool want) :: T) H fun T => planD E N ops m W rest (k + 1) T H Hs K) ∧
            (b = (!want) → putK N o.dst (.tup []) ((d, .bool (!want)) :: T) fun T => bif memN k W then planD E N ops m W rest (k + 1) T H (H :: Hs) K else planD E N ops m W rest (k + 1) T H Hs K) else False
        | .tup [] => putK N o.dst (.tup []) T fun T => bif memN k W then planD E N ops m W rest (k + 1) T H (H :: Hs) K else planD E N ops m W rest (k + 1) T H Hs K
        | _ => False
def valOf (o : Oper) (T : Tmps) : AV :=
  match o.dst with
  | some d => lookT T d
  | none => .undef
def sameV (v : AV) : AV → Prop
  | .undef => True
  | .bool c => match v with
    | .bool b => b = c
    | _ => False
  | u => v = u
def chkV (E : Env) (o : Oper) (ops : List Oper) (m : Nat) (T : Tmps) (H : Heap) : Prop :=
  match opD E o.op (rho (maskT ops (depsOf o) T m)) H.lock with
  | some ⟨need, _, v, H'⟩ => need ∧ match closeV H.n H' v with
    | some v => sameV v (valOf o T)
    | none => False
  | none => False
def chk1 (E : Env) (N : Nat) (o : Oper) (ops : List Oper) (m : Nat) (T : Tmps) (H : Heap) : Prop :=
  match o.guard with
  | none => chkV E o ops m T H
  | some (j, want) => match dstOf ops j with
    | none => False
    | some d => match lookT (maskT ops (depsOf o) T m) d with
      | .bool c => bif Nat.blt d N then (bif eqBb c want then chkV E o ops m T H else sameV (.tup []) (valOf o T)) else False
      | .tup [] => sameV (.tup []) (valOf o T)
      | _ => False
def checkD (E : Env) (N : Nat) (ops : List Oper) (m : Nat) (T : Tmps) (Hs : List Heap) : List (Nat × Nat) → Prop
  | [] => True
  | (i, j) :: Z => (match ops[i]? with
    | some o => match stAt Hs j with
      | some H => chk1 E N o ops m T H
      | none => False
    | none => False) ∧ checkD E N ops m T Hs Z
def drawE (E : Env) (N : Nat) (ops : List Oper) (m : Nat) (W : List Nat) (Z : List (Nat × Nat)) (T : Tmps) (H : Heap) (K : Tmps → Heap → Prop) : Prop :=
  freeOk ops.toArray m = true ∧ wrOk N ops.toArray m W Z = true ∧ planD E N ops m W (ops.take m) 0 T H [] fun T' H' Hs => checkD E N ops m T' (H' :: Hs) Z ∧ regD E N ops (ops.drop m) T' H' K
end
end Go.Proofs.Ytpjdicndjakeoaa
