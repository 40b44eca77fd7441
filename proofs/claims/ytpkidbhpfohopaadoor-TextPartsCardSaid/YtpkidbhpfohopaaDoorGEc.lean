/- The engine: regions. No condition. -/
import Derived.Test.YtpkidbhpfohopaaDoorGEb
import Derived.Deep.LoopGhost
import Derived.Test.YtpkidbhpfohopaaDoorGA
noncomputable section
namespace Go.Proofs.YtpkidbhpfohopaaDoor
open Go.RowKit
set_option linter.unusedVariables false
set_option linter.unusedSimpArgs false
abbrev Tmps := List (Nat × AV)
def lookT : Tmps → Nat → AV
  | [], _ => .undef
  | (i, a) :: r, k => bif Nat.beq i k then a else lookT r k
def ofConst : Value → AV
  | .int k n => bif decide (k.min ≤ n) && decide (n ≤ k.max) then .int k n else .undef
  | .bool b => .bool b
  | .string s => bif decide (s.size ≤ 9223372036854775807) then .str s else .undef
  | .pointer none => .nilp
  | .slice none 0 0 => .nils
  | .nilIface => .ifz
  | _ => .undef
def rho (T : Tmps) : Operand → AV
  | .tmp t => lookT T t
  | .const v => ofConst v
  | .global _ => .undef
  | .func f => .fn f
def forceN (n : Nat) (K : Nat → Prop) : Prop :=
  Nat.casesOn n (K 0) fun n => Nat.casesOn n (K 1) fun n => Nat.casesOn n (K 2) fun n => Nat.casesOn n (K 3) fun n => Nat.casesOn n (K 4) fun n => Nat.casesOn n (K 5) fun n => Nat.casesOn n (K 6) fun n => Nat.casesOn n (K 7) fun n => 
  Nat.casesOn n (K 8) fun n => Nat.casesOn n (K 9) fun n => Nat.casesOn n (K 10) fun n => Nat.casesOn n (K 11) fun n => Nat.casesOn n (K 12) fun n => Nat.casesOn n (K 13) fun n => Nat.casesOn n (K 14) fun n => Nat.casesOn n (K 15) fun n => 
  Nat.casesOn n (K 16) fun n => Nat.casesOn n (K 17) fun n => Nat.casesOn n (K 18) fun n => Nat.casesOn n (K 19) fun n => Nat.casesOn n (K 20) fun n => Nat.casesOn n (K 21) fun n => Nat.casesOn n (K 22) fun n => Nat.casesOn n (K 23) fun n => 
  Nat.casesOn n (K 24) fun n => Nat.casesOn n (K 25) fun n => Nat.casesOn n (K 26) fun n => Nat.casesOn n (K 27) fun n => Nat.casesOn n (K 28) fun n => Nat.casesOn n (K 29) fun n => Nat.casesOn n (K 30) fun n => Nat.casesOn n (K 31) fun n => 
  Nat.casesOn n (K 32) fun n => Nat.casesOn n (K 33) fun n => Nat.casesOn n (K 34) fun n => Nat.casesOn n (K 35) fun n => Nat.casesOn n (K 36) fun n => Nat.casesOn n (K 37) fun n => Nat.casesOn n (K 38) fun n => Nat.casesOn n (K 39) fun n => 
  K (n + 40)
theorem forceN_eq (n : Nat) (K : Nat → Prop) : forceN n K = K n := by
  iterate 40 (cases n with
    | zero => rfl
    | succ n => ?_)
  rfl
def forceP (p : Path) (K : Path → Prop) : Prop :=
  match p with
  | ⟨i, s, k, none⟩ => forceN s fun s => forceN k fun k => K ⟨i, s, k, none⟩
  | ⟨i, s, k, some (j, t)⟩ => forceN s fun s => forceN k fun k => forceN t fun t => K ⟨i, s, k, some (j, t)⟩
theorem forceP_eq (p : Path) (K : Path → Prop) : forceP p K = K p := by
  obtain ⟨i, s, k, j⟩ := p
  cases j with
  | none => simp only [forceP, forceN_eq]
  | some x => obtain ⟨j, t⟩ := x; simp only [forceP, forceN_eq]
def force1 (v : AV) (K : AV → Prop) : Prop :=
  match v with
  | .undef => K .undef
  | .int k n => K (.int k n)
  | .bool b => K (.bool b)
  | .str s => K (.str s)
  | .nilp => K .nilp
  | .ptr id p => forceN id fun id => forceP p fun p => K (.ptr id p)
  | .nils => K .nils
  | .slc id => forceN id fun id => K (.slc id)
  | .nilm => K .nilm
  | .ifz => K .ifz
  | .ifn => K .ifn
  | .hdl k id => forceN id fun id => K (.hdl k id)
  | .vsl t xs => K (.vsl t xs)
  | .arr n t xs => K (.arr n t xs)
  | .fn f => K (.fn f)
  | .vptr t x k => forceN k fun k => K (.vptr t x k)
  | .agg cs => K (.agg cs)
  | .tup vs => K (.tup vs)
theorem force1_eq (v : AV) (K : AV → Prop) : force1 v K = K v := by cases v <;> simp only [force1, forceN_eq, forceP_eq]
def forceL (l : List AV) (K : List AV → Prop) : Prop :=
  match l with
  | [] => K []
  | a :: as => force1 a fun a => forceL as fun as => K (a :: as)
theorem forceL_eq : ∀ (l : List AV) (K : List AV → Prop), forceL l K = K l
  | [], K => rfl
  | a :: as, K => by simp only [forceL, force1_eq, forceL_eq as]
def forceA (v : AV) (K : AV → Prop) : Prop :=
  match v with
  | .agg cs => forceL cs fun cs => K (.agg cs)
  | v => force1 v K
theorem forceA_eq (v : AV) (K : AV → Prop) : forceA v K = K v := by cases v <;> simp only [forceA, force1_eq, forceL_eq]
def forceAs (l : List AV) (K : List AV → Prop) : Prop :=
  match l with
  | [] => K []
  | a :: as => forceA a fun a => forceAs as fun as => K (a :: as)
theorem forceAs_eq : ∀ (l : List AV) (K : List AV → Prop), forceAs l K = K l
  | [], K => rfl
  | a :: as, K => by simp only [forceAs, forceA_eq, forceAs_eq as]
def forceAV (v : AV) (K : AV → Prop) : Prop :=
  match v with
  | .tup vs => forceAs vs fun vs => K (.tup vs)
  | v => forceA v K
theorem force_eq (v : AV) (K : AV → Prop) : forceAV v K = K v := by cases v <;> simp only [forceAV, forceA_eq, forceAs_eq]
def forceB (b : Option Blk) (K : Option Blk → Prop) : Prop :=
  match b with
  | none => K none
  | some (.objT ro ty cs) => forceL cs fun cs => K (some (.objT ro ty cs))
  | some (.seq ro e t xs) => K (some (.seq ro e t xs))
  | some (.map ro t es) => K (some (.map ro t es))
theorem forceB_eq (b : Option Blk) (K : Option Blk → Prop) : forceB b K = K b := by
  match b with
  | none => rfl
  | some (.objT ro ty cs) => simp only [forceB, forceL_eq]
  | some (.seq ro e t xs) => rfl
  | some (.map ro t es) => rfl
/-- The blocks, each once, the newest first. -/
def forceHL (l : List (Nat × Option Blk)) (K : List (Nat × Option Blk) → Prop) : Prop :=
  match l with
  | [] => K []
  | (i, b) :: r => forceN i fun i => forceB b fun b => forceHL r fun r => K ((i, b) :: r)
theorem forceHL_eq : ∀ (l : List (Nat × Option Blk)) (K : List (Nat × Option Blk) → Prop), forceHL l K = K l
  | [], K => rfl
  | (i, b) :: r, K => by simp only [forceHL, forceN_eq, forceB_eq, forceHL_eq r]
def forceH (H : Heap) (K : Heap → Prop) : Prop :=
  match H with
  | ⟨n, l⟩ => forceN n fun n => forceHL l fun l => K ⟨n, l⟩
theorem forceH_eq (H : Heap) (K : Heap → Prop) : forceH H K = K H := by
  obtain ⟨n, l⟩ := H
  simp only [forceH, forceN_eq, forceHL_eq]
def forceT (T : Tmps) (K : Tmps → Prop) : Prop :=
  match T with
  | [] => K []
  | (i, a) :: r => forceN i fun i => forceA a fun a => forceT r fun r => K ((i, a) :: r)
theorem forceT_eq : ∀ (T : Tmps) (K : Tmps → Prop), forceT T K = K T
  | [], K => rfl
  | (i, a) :: r, K => by simp only [forceT, forceN_eq, forceA_eq, forceT_eq r]
def putK (N : Nat) (dst : Option Tmp) (v : AV) (T : Tmps) (K : Tmps → Prop) : Prop :=
  match dst with
  | none => K T
  | some d => bif Nat.blt d N then forceAV v fun v => K ((d, v) :: T) else False
/-- A slice of which only the elements are known is asked whether it is nil: either may be; if it is, it has none. -/
def nilLen (H : Heap) : AV → Option Nat
  | .vsl _ xs => some xs.length
  | .slc id => match H.get id with
    | some (.seq _ _ _ xs) => some xs.length
    | _ => none
  | _ => none
def nilAsk (E : Env) (T : Tmps) (H : Heap) : Op → Option Nat
  | .binOp op t x y _ => match op with
    | .eql => match rho T y with
      | .nils => match E.T t with
        | some i => match i.k with
          | .slice _ => nilLen H (rho T x)
          | _ => none
        | none => none
      | _ => none
    | _ => none
  | _ => none
def opK (E : Env) (N : Nat) (o : Oper) (T : Tmps) (H : Heap) (K : Tmps → Heap → Prop) : Prop :=
  match opD E o.op (rho T) H with
  | some ⟨need, know, v, H'⟩ => need ∧ (know → putK N o.dst v T fun T' => forceH H' fun H' => K T' H')
  | none => match nilAsk E T H o.op with
    | some n => (n = 0 → putK N o.dst (.bool true) T fun T' => K T' H) ∧ putK N o.dst (.bool false) T fun T' => K T' H
    | none => False
def dstOf (ops : List Oper) (j : Nat) : Option Tmp :=
  match ops[j]? with
  | some o => o.dst
  | none => none
/-- What goes on behind an operation (words of their own: so the kernel compares them by their parts). -/
def regK (F : Tmps → Heap → (Tmps → Heap → Prop) → Prop) (K : Tmps → Heap → Prop) (T : Tmps) (H : Heap) : Prop := F T H K
def regKH (F : Tmps → Heap → (Tmps → Heap → Prop) → Prop) (H : Heap) (K : Tmps → Heap → Prop) (T : Tmps) : Prop := F T H K
def regD (E : Env) (N : Nat) (ops : List Oper) : List Oper → Tmps → Heap → (Tmps → Heap → Prop) → Prop
  | [], T, H, K => K T H
  | o :: rest, T, H, K => match o.guard with
    | none => opK E N o T H (regK (regD E N ops rest) K)
    | some (j, want) => match dstOf ops j with
      | none => False
      | some d => match lookT T d with
        | .bool b => bif Nat.blt d N then (b = want → opK E N o ((d, .bool want) :: T) H (regK (regD E N ops rest) K)) ∧ (b = (!want) → putK N o.dst (.tup []) ((d, .bool (!want)) :: T) (regKH (regD E N ops rest) H K)) else False
        | .tup [] => putK N o.dst (.tup []) T (regKH (regD E N ops rest) H K)
        | _ => False
/-- The temporaries. -/
structure TRel (F : Nat → Prop) (φ : Nat → RS) (H : Heap) (w : World) (N : Nat) (T : Tmps) (a : Act) : Prop where
  size : a.tmps.size = N
  get : ∀ t, RV (cx F φ H w) (lookT T t) (a.tmps.getD t undef)
  defers : a.defers = []
section
variable {P : Program} {E : Env} {F : Nat → Prop} {φ : Nat → RS} {H : Heap} {w : World} {N : Nat} {T : Tmps} {a : Act}
theorem rv_undef {C : Cx} (v : Value) : RV C .undef v := trivial
theorem rho_ok (h : TRel F φ H w N T a) (x : Operand) : RV (cx F φ H w) (rho T x) (a.eval x) := by
  cases x with
  | tmp t => exact h.get t
  | const v =>
    simp only [rho, Act.eval]
    unfold ofConst
    split
    · rw [Bool.cond_eq_ite]
      split
      · rename_i hc
        simp only [Bool.and_eq_true, decide_eq_true_eq] at hc
        exact rv_int hc
      · trivial
    · exact rv_bool _
    · rw [Bool.cond_eq_ite]
      split
      · rename_i hc
        exact Reps.str (by simpa [maxLen] using hc) .nil
      · trivial
    · exact Reps.nilp .nil
    · exact Reps.nils .nil
    · exact Reps.ifz .nil
    · trivial
  | global g => trivial
  | func f => exact Reps.fn .nil
theorem TRel.mono {φ' : Nat → RS} {H' : Heap} {w' : World} (h : TRel F φ H w N T a) (le : (cx F φ H w).Le (cx F φ' H' w')) : TRel F φ' H' w' N T a := ⟨h.size, fun t => (h.get t).mono le, h.defers⟩
theorem lookT_cons (d t : Nat) (v : AV) (T : Tmps) : lookT ((d, v) :: T) t = if t = d then v else lookT T t := by
  rw [lookT]
  by_cases e : t = d
  · rw [if_pos e, e, Nat.beq_refl]; rfl
  · rw [if_neg e]
    have : Nat.beq d t = false := by cases hb : Nat.beq d t with | false => rfl | true => exact absurd (Nat.eq_of_beq_eq_true hb).symm e
    rw [this]; rfl
theorem TRel.put (h : TRel F φ H w N T a) {d : Nat} (hd : d < N) {v : AV} {u : Value} (hv : RV (cx F φ H w) v u) : TRel F φ H w N ((d, v) :: T) (a.put (some d) u) := by
  refine ⟨by simp [Act.put, h.size], fun t => ?_, h.defers⟩
  rw [lookT_cons]
  by_cases e : t = d
  · subst e
    rw [if_pos rfl]
    have : (a.put (some t) u).tmps.getD t undef = u := by simp [Act.put, Array.getD_eq_getD_getElem?, h.size, hd]
    rw [this]
    exact hv
  · rw [if_neg e]
    have : (a.put (some d) u).tmps.getD t undef = a.tmps.getD t undef := by
      simp only [Act.put, Array.getD_eq_getD_getElem?]
      rw [Array.getElem?_setIfInBounds_ne (Ne.symm e)]
    rw [this]
    exact h.get t
theorem putK_ok (h : TRel F φ H w N T a) {dst : Option Tmp} {v : AV} {u : Value} (hv : RV (cx F φ H w) v u) {K : Tmps → Prop} (hk : putK N dst v T K) : ∃ T', K T' ∧ TRel F φ H w N T' (a.put dst u) := by
  unfold putK at hk
  cases dst with
  | none => exact ⟨T, hk, h⟩
  | some d =>
    simp only [Bool.cond_eq_ite] at hk
    split at hk
    · rename_i hd
      rw [force_eq] at hk
      exact ⟨_, hk, h.put (by simpa using hd) hv⟩
    · exact hk.elim
/-- Where a test's outcome is known, its temporary holds it. -/
theorem TRel.known (h : TRel F φ H w N T a) {d : Nat} {b c : Bool} (hl : lookT T d = .bool b) (hb : b = c) : TRel F φ H w N ((d, .bool c) :: T) a := by
  refine ⟨h.size, fun t => ?_, h.defers⟩
  rw [lookT_cons]
  split
  · rename_i e
    subst e
    have := h.get t
    rw [hl, hb] at this
    exact this
  · exact h.get t
theorem opK_ok (hE : E.Ok P) (hR : Rel F φ H w) (hT : TRel F φ H w N T a) {o : Oper} {K : Tmps → Heap → Prop} (h : opK E N o T H K) : ∃ r : Res, Give P (Post F φ H w r) ((execOp a.eval o).run P w) ∧ putK N o.dst r.v T fun T' => K T' r.H := by
  unfold opK at h
  split at h
  · rename_i need know v H' hr
    obtain ⟨h1, h2⟩ := h
    obtain ⟨h3, h4⟩ := op_ok hE hR (rho_ok hT) hr h1
    have := h2 h3
    simp only [forceH_eq] at this
    exact ⟨_, h4, this⟩
  · split at h
    · rename_i n hn
      unfold nilAsk at hn
      split at hn
      · rename_i op t x y z hop
        split at hn
        · split at hn
          · rename_i hy
            split at hn
            · rename_i i hTi
              split at hn
              · rename_i e hk
                obtain ⟨d, hd, -, hkk⟩ := (hE.T _ _ hTi).und
                rw [hk] at hkk
                subst hkk
                have hu := rho_ok hT x
                have hv := rho_ok hT y
                rw [hy] at hv
                have hv := rv_nils_inv hv
                obtain ⟨A, m, c, hu', hm⟩ : ∃ A m c, a.eval x = .slice A m c ∧ (A = none → n = 0) := by
                  unfold nilLen at hn
                  split at hn
                  · rename_i ty xs hx
                    injection hn with hn
                    rw [hx] at hu
                    obtain ⟨A, c, hu', h1, h2, -⟩ := rv_vsl_inv hu
                    exact ⟨A, _, c, hu', fun h => by have := h2.2 h; omega⟩
                  · rename_i id hx
                    split at hn
                    · rename_i ro e t xs hg
                      injection hn with hn
                      rw [hx] at hu
                      obtain ⟨hu', -⟩ := rv_slc_inv hu
                      obtain ⟨-, A, c, h1, h2, h3, -⟩ := seq_len hR hg
                      exact ⟨A, _, c, by rw [hu']; exact h1, fun h => by have := h2 h; omega⟩
                    · cases hn
                  · cases hn
                have he : (Op.equal t (.slice A m c) (.slice none 0 0)).run P w = .ok A.isNone w := by
                  have : ∀ d, (Op.equalIn (d + 1) t (.slice A m c) (.slice none 0 0)).run P w = .ok A.isNone w := fun d => by cases A <;> simp [Op.equalIn, run_underlying hd]
                  exact this 9999
                refine ⟨⟨True, True, .bool A.isNone, H⟩, ?_, ?_⟩
                · unfold execOp
                  rw [hop]
                  refine give_v (v := .bool A.isNone) ?_ (post_same hR (rv_bool _))
                  rw [hu', hv, eqGuard_at_slice]
                  simp [binOp, he]
                · cases A with
                  | none => exact h.1 (hm rfl)
                  | some A => exact h.2
              · cases hn
            · cases hn
          · cases hn
        · cases hn
      · cases hn
    · exact h.elim
theorem yielded_get {ops : Array Oper} {j d : Nat} {b : Bool} (hd : dstOf ops.toList j = some d) (ht : a.tmps.getD d undef = .bool b) (hs : d < a.tmps.size) : yielded ops a.tmps j = some b := by
  unfold dstOf at hd
  split at hd
  · rename_i o ho
    have ho' : ops[j]? = some o := by rw [← ho]; simp
    have ht' : a.tmps[d]? = some (.bool b) := by
      rw [Array.getD_eq_getD_getElem?, Array.getElem?_eq_getElem hs] at ht
      rw [Array.getElem?_eq_getElem hs]
      simpa using ht
    simp [yielded, ho', hd, ht']
  · cases hd
theorem yielded_none {ops : Array Oper} {j d : Nat} (hd : dstOf ops.toList j = some d) (ht : a.tmps.getD d undef = undef) : yielded ops a.tmps j = none := by
  unfold dstOf at hd
  split at hd
  · rename_i o ho
    have ho' : ops[j]? = some o := by rw [← ho]; simp
    cases e : a.tmps[d]? with
    | none => simp [yielded, ho', hd, e]
    | some v =>
      rw [Array.getD_eq_getD_getElem?, e] at ht
      have ht : v = undef := ht
      subst ht
      simp [yielded, ho', hd, e, undef]
  · cases hd
theorem rv_skip {C : Cx} : RV C (.tup []) undef := ⟨[], rfl, trivial⟩
/-- The invariant of a walk: all that has been and what is. -/
structure Base (F : Nat → Prop) (φ0 : Nat → RS) (H0 : Heap) (w0 : World) (φ : Nat → RS) (H : Heap) (w : World) : Prop where
  rel : Rel F φ H w
  ext : Ext F φ0 H0 w0 φ H w
  lt0 : ∀ id k, H0.get id = some k → id < H0.n
variable {φ0 : Nat → RS} {H0 : Heap} {w0 : World}
theorem reg_ok (hE : E.Ok P) {ops : Array Oper} {Q : Exit → Act → World → Prop} : ∀ (rest : List Oper) (T : Tmps) (H : Heap) (φ : Nat → RS) (w : World) (a : Act) (K : Tmps → Heap → Prop), regD E N ops.toList rest T H K → Base F φ0 H0 w0 φ H w → TRel F φ H w N T a →
    (∀ T' H' φ' w' a', K T' H' → Base F φ0 H0 w0 φ' H' w' → TRel F φ' H' w' N T' a' → Q .normal a' w') → wpList P ops Q rest a w
  | [], T, H, φ, w, a, K, h, hB, hT, hQ => hQ T H φ w a h hB hT
  | o :: rest, T, H, φ, w, a, K, h, hB, hT, hQ => by
    rw [regD] at h
    have step : ∀ (T1 : Tmps) (a1 : Act), TRel F φ H w N T1 a1 → opK E N o T1 H (fun T H => regD E N ops.toList rest T H K) → o.wp P a1 w (wpList P ops Q rest) Q := fun T1 a1 hT1 ho => by
      obtain ⟨r, h1, h2⟩ := opK_ok hE hB.rel hT1 ho
      refine upon_of_give h1 fun v w' ⟨φ', hv, hR', hX'⟩ => ?_
      obtain ⟨T', h3, h4⟩ := putK_ok (hT1.mono hX'.le) hv h2
      exact reg_ok hE rest T' r.H φ' w' _ K h3 ⟨hR', hB.ext.trans hX', hB.lt0⟩ h4 hQ
    unfold wpList
    split at h
    · rename_i hg
      have hw : Region.wanted o (yielded ops a.tmps) = true := by simp [Region.wanted, hg]
      rw [if_pos hw]
      exact .inl (step T a hT h)
    · rename_i j want hg
      split at h
      · exact h.elim
      · rename_i d hd
        split at h
        · rename_i b hb
          rw [Bool.cond_eq_ite] at h
          split at h
          · rename_i hlt
            have hlt : d < N := by simpa using hlt
            have hv := rv_bool_inv (by have := hT.get d; rwa [hb] at this)
            have hy := yielded_get hd hv (by rw [hT.size]; exact hlt)
            have hw : Region.wanted o (yielded ops a.tmps) = (b == want) := by simp [Region.wanted, hg, hy]
            rw [hw]
            by_cases e : b = want
            · rw [if_pos (by simpa using e)]
              exact .inl (step _ a (hT.known hb e) (h.1 e))
            · rw [if_neg (by simpa using e)]
              have e' : b = !want := by cases b <;> cases want <;> simp_all
              obtain ⟨T', h3, h4⟩ := putK_ok (hT.known hb e') rv_skip (h.2 e')
              exact reg_ok hE rest T' H φ w _ K h3 hB h4 hQ
          · exact h.elim
        · rename_i hb
          have hv := hT.get d
          rw [hb] at hv
          obtain ⟨vs, e, hr⟩ := hv
          have e0 : vs = [] := by cases vs <;> first | rfl | exact hr.elim
          subst e0
          have hy := yielded_none hd e
          have hw : Region.wanted o (yielded ops a.tmps) = false := by simp [Region.wanted, hg, hy]
          rw [hw, if_neg (by decide)]
          obtain ⟨T', h3, h4⟩ := putK_ok hT rv_skip h
          exact reg_ok hE rest T' H φ w _ K h3 hB h4 hQ
        · exact h.elim
/-! ### regions that draw their order -/
def Blk.lock : Blk → Blk
  | .objT _ ty cs => .objT true ty cs
  | .seq _ e t xs => .seq true e t xs
  | .map _ t es => .map true t es
def lockL : List (Nat × Option Blk) → List (Nat × Option Blk)
  | [] => []
  | (i, none) :: r => (i, none) :: lockL r
  | (i, some b) :: r => (i, some b.lock) :: lockL r
def Heap.lock (H : Heap) : Heap := ⟨H.n, lockL H.l⟩
theorem lock_get (H : Heap) (id : Nat) : H.lock.get id = (H.get id).map Blk.lock := by
  obtain ⟨n, l⟩ := H
  simp only [Heap.get, Heap.lock]
  induction l with
  | nil => rfl
  | cons x l ih =>
    obtain ⟨i, b⟩ := x
    cases b <;> simp only [lockL, lookH] <;> cases Nat.beq i id <;> first | rfl | exact ih
theorem lock_ro (k : Blk) : k.lock.ro = true := by cases k <;> rfl
theorem lock_mut {b : Nat} : Mut φ H.lock b ↔ Mut φ H b := by
  constructor
  · rintro ⟨id, k, h1, h2⟩
    rw [lock_get, Option.map_eq_some_iff] at h1
    obtain ⟨k', h1, -⟩ := h1
    exact ⟨id, k', h1, h2⟩
  · rintro ⟨id, k, h1, h2⟩
    exact ⟨id, k.lock, by rw [lock_get, h1]; rfl, h2⟩
theorem lock_wr {b : Nat} : ¬ Wr φ H.lock b := by
  rintro ⟨id, k, h1, h2, -⟩
  rw [lock_get, Option.map_eq_some_iff] at h1
  obtain ⟨k', -, rfl⟩ := h1
  rw [lock_ro] at h2
  cases h2
theorem lock_le : (cx F φ H w).Le (cx F φ H.lock w) := ⟨fun _ _ => rfl, Nat.le_refl _, fun b _ hm h => hm (h.elim (fun h => .inl (lock_mut.1 h)) .inr), Nat.le_refl _, fun _ _ _ => rfl, fun b _ _ => lock_wr⟩
theorem Rel.lock (h : Rel F φ H w) : Rel F φ H.lock w := by
  have old : ∀ id k, H.lock.get id = some k → ∃ k', H.get id = some k' ∧ k = k'.lock := fun id k hk => by
    rw [lock_get, Option.map_eq_some_iff] at hk
    obtain ⟨k', h1, h2⟩ := hk
    exact ⟨k', h1, h2.symm⟩
  refine ⟨h.st, fun id k hk => ?_, fun id k hk => ?_, fun id id' k k' hk hk' => ?_, fun id k hk => ?_, h.flt⟩
  · obtain ⟨k', h1, -⟩ := old id k hk
    exact h.lt _ _ h1
  · obtain ⟨k', h1, rfl⟩ := old id k hk
    have := (h.blk _ _ h1).mono lock_le (fun _ => rfl)
    cases k' <;> exact this
  · obtain ⟨_, h1, -⟩ := old id k hk
    obtain ⟨_, h2, -⟩ := old id' k' hk'
    exact h.inj _ _ _ _ h1 h2
  · obtain ⟨_, h1, -⟩ := old id k hk
    exact h.forb _ _ h1
def closed1 (n : Nat) : AV → Bool
  | .ptr id _ => Nat.blt id n
  | .slc id => Nat.blt id n
  | .hdl _ id => Nat.blt id n
  | _ => true
def closeA (n : Nat) (H : Heap) : AV → Option AV
  | .slc id => bif Nat.blt id n then some (.slc id) else match H.get id with
    | some (.seq _ _ t xs) => some (.vsl t xs)
    | _ => none
  | .ptr id p => bif Nat.blt id n then some (.ptr id p) else none
  | .hdl k id => bif Nat.blt id n then some (.hdl k id) else none
  | .agg cs => bif cs.all (closed1 n) then some (.agg cs) else none
  | .tup _ => none
  | a => some a
def closeAs (n : Nat) (H : Heap) : List AV → Option (List AV)
  | [] => some []
  | a :: as => match closeA n H a with
    | some b => match closeAs n H as with
      | some bs => some (b :: bs)
      | none => none
    | none => none
def closeV (n : Nat) (H : Heap) : AV → Option AV
  | .tup l => match closeAs n H l with
    | some bs => some (.tup bs)
    | none => none
  | a => closeA n H a
section
variable {φ' : Nat → RS} {H' : Heap} {w' : World}
theorem Reps.back {C C' : Cx} {n : Nat} (hφ : ∀ id, id < n → C'.φ id = C.φ id ∧ id < C'.n) (hm : ∀ b, b < C.w.heap.size → ¬ C.mt b → ¬ C'.mt b) (hw : C'.w = C.w) {as : List AV} {vs : List Value} (h : Reps C as vs) (hc : as.all (closed1 n) = true) : Reps C' as vs := by
  have henc : ∀ (t : Ty) (x : t.den), (enc t x).all (closed1 n) = true := fun t x => by cases t <;> rfl
  induction h with
  | nil => exact .nil
  | int a b h ih => simp only [List.all_cons, Bool.and_eq_true] at hc; exact .int a b (ih hc.2)
  | bool h ih => simp only [List.all_cons, Bool.and_eq_true] at hc; exact .bool (ih hc.2)
  | str a h ih => simp only [List.all_cons, Bool.and_eq_true] at hc; exact .str a (ih hc.2)
  | nilp h ih => simp only [List.all_cons, Bool.and_eq_true] at hc; exact .nilp (ih hc.2)
  | ptr a h ih =>
    simp only [List.all_cons, Bool.and_eq_true] at hc
    have := hφ _ (by simpa [closed1] using hc.1)
    rw [← this.1]
    exact .ptr this.2 (ih hc.2)
  | nils h ih => simp only [List.all_cons, Bool.and_eq_true] at hc; exact .nils (ih hc.2)
  | slc a h ih =>
    simp only [List.all_cons, Bool.and_eq_true] at hc
    have := hφ _ (by simpa [closed1] using hc.1)
    rw [← this.1]
    exact .slc this.2 (ih hc.2)
  | nilm h ih => simp only [List.all_cons, Bool.and_eq_true] at hc; exact .nilm (ih hc.2)
  | ifz h ih => simp only [List.all_cons, Bool.and_eq_true] at hc; exact .ifz (ih hc.2)
  | ifn h ih => simp only [List.all_cons, Bool.and_eq_true] at hc; exact .ifn (ih hc.2)
  | hdl a h ih =>
    simp only [List.all_cons, Bool.and_eq_true] at hc
    have := hφ _ (by simpa [closed1] using hc.1)
    rw [← this.1]
    exact .hdl this.2 (ih hc.2)
  | vsl ws a b c d h ih1 ih2 =>
    simp only [List.all_cons, Bool.and_eq_true] at hc
    refine .vsl ws a b (fun h0 => ?_) (fun i x hx => ih1 i x hx (henc _ x)) (ih2 hc.2)
    obtain ⟨bb, off, hA, hmm, hlt, hcc⟩ := c h0
    exact ⟨bb, off, hA, hm _ hlt hmm, by rw [hw]; exact hlt, by rw [hw]; exact hcc⟩
  | arr a b h ih1 ih2 =>
    simp only [List.all_cons, Bool.and_eq_true] at hc
    refine .arr (ih1 ?_) b (ih2 hc.2)
    rw [List.all_eq_true]
    intro x hx
    obtain ⟨y, -, hy⟩ := List.mem_flatMap.1 hx
    exact List.all_eq_true.1 (henc _ y) x hy
  | fn h ih => simp only [List.all_cons, Bool.and_eq_true] at hc; exact .fn (ih hc.2)
  | vptr ws a b c d h ih1 ih2 =>
    simp only [List.all_cons, Bool.and_eq_true] at hc
    exact .vptr ws (ih1 (henc _ _)) (hm _ c b) (by rw [hw]; exact c) (by rw [hw]; exact d) (ih2 hc.2)
/-- What was made in the meantime is but read from now on. -/
theorem closeA_ok (hR' : Rel F φ' H' w') (hX : Ext F φ H.lock w φ' H' w') (hR : Rel F φ H w) {a b : AV} {v : Value} (h : closeA H.n H' a = some b) (hv : RV1 (cx F φ' H' w') a v) : RV1 (cx F φ H w') b v := by
  have hφ : ∀ id, id < H.n → φ id = φ' id ∧ id < H.n := fun id hid => ⟨(hX.le.φ id hid).symm, hid⟩
  have hmt : ∀ (H2 : Heap), (∀ id, id < H.n → H2.get id = H'.get id) → ∀ b, ¬ (cx F φ' H2 w').mt b → ¬ (cx F φ H w').mt b := fun H2 h2 b hm => by
    rintro (⟨id, k, hk, hn, he⟩ | hf)
    · have hid := hR.lt _ _ hk
      have h3 : H.lock.get id = some k.lock := by rw [lock_get, hk]; rfl
      have h4 := hX.ro id _ h3 (lock_ro k)
      have h5 := (hφ id hid).1
      exact hm (.inl ⟨id, _, by rw [h2 id hid]; exact h4, by rw [← h5]; exact hn, by rw [← h5]; exact he⟩)
    · exact hm (.inr hf)
  have leaf : ∀ as us, as.all (closed1 H.n) = true → Reps (cx F φ' H' w') as us → Reps (cx F φ H w') as us := fun as us hc hr => Reps.back (C := cx F φ' H' w') (C' := cx F φ H w') (n := H.n) hφ (fun b _ hm => hmt H' (fun _ _ => rfl) b hm) rfl hr hc
  unfold closeA at h
  split at h
  · rename_i id
    rw [Bool.cond_eq_ite] at h
    split at h
    · rename_i hlt
      cases h
      exact leaf [.slc id] [v] (by simpa [closed1] using hlt) hv
    · rename_i hlt
      split at h
      · rename_i ro e t xs hg
        cases h
        have hf := freeze_ok hR' hg
        have hvv := (rv_slc_inv (rv_of_rv1 hv)).1
        subst hvv
        refine Reps.back (C := cx F φ' (H'.put id none) w') (C' := cx F φ H w') (n := 0) (fun id hid => absurd hid (Nat.not_lt_zero _)) (fun b _ hm => ?_) rfl hf rfl
        refine hmt (H'.put id none) (fun id' hid' => Heap.get_put_ne _ _ (fun e => ?_)) b hm
        subst e
        exact hlt (by simpa using hid')
      · cases h
  · rename_i id p
    rw [Bool.cond_eq_ite] at h
    split at h
    · rename_i hlt
      cases h
      exact leaf [.ptr id p] [v] (by simpa [closed1] using hlt) hv
    · cases h
  · rename_i k id
    rw [Bool.cond_eq_ite] at h
    split at h
    · rename_i hlt
      cases h
      exact leaf [.hdl k id] [v] (by simpa [closed1] using hlt) hv
    · cases h
  · rename_i cs
    rw [Bool.cond_eq_ite] at h
    split at h
    · rename_i hc
      cases h
      obtain ⟨vs, e, hr⟩ := hv
      exact ⟨vs, e, leaf cs vs hc hr⟩
    · cases h
  · cases h
  · rename_i h1 h2 h5 h3 h4
    cases h
    cases a <;> first | exact absurd rfl (h1 _) | exact absurd rfl (h2 _ _) | exact absurd rfl (h3 _) | exact absurd rfl (h4 _) | exact absurd rfl (h5 _ _) | trivial | exact leaf [_] [v] rfl hv
theorem closeAs_ok (hR' : Rel F φ' H' w') (hX : Ext F φ H.lock w φ' H' w') (hR : Rel F φ H w) : ∀ {as bs : List AV} {vs : List Value}, closeAs H.n H' as = some bs → RVs (cx F φ' H' w') as vs → RVs (cx F φ H w') bs vs
  | [], bs, [], h, hv => by cases h; trivial
  | [], bs, _ :: _, h, hv => hv.elim
  | _ :: _, bs, [], h, hv => hv.elim
  | a :: as, bs, v :: vs, h, hv => by
    rw [closeAs] at h
    split at h
    · rename_i b hb
      split at h
      · rename_i bs' hbs
        cases h
        exact ⟨closeA_ok hR' hX hR hb hv.1, closeAs_ok hR' hX hR hbs hv.2⟩
      · cases h
    · cases h
theorem closeV_ok (hR' : Rel F φ' H' w') (hX : Ext F φ H.lock w φ' H' w') (hR : Rel F φ H w) {a b : AV} {v : Value} (h : closeV H.n H' a = some b) (hv : RV (cx F φ' H' w') a v) : RV (cx F φ H w') b v := by
  cases a with
  | tup l =>
    obtain ⟨vs, e, hr⟩ := hv
    rw [closeV] at h
    split at h
    · rename_i bs hbs
      cases h
      exact ⟨vs, e, closeAs_ok hR' hX hR hbs hr⟩
    · cases h
  | _ =>
    simp only [RV] at hv
    simp only [closeV] at h
    exact rv_of_rv1 (closeA_ok hR' hX hR h hv)
end
def preK (E : Env) (N : Nat) (o : Oper) (T0 T : Tmps) (H : Heap) (K : Tmps → Prop) : Prop :=
  match opD E o.op (rho T0) H.lock with
  | some ⟨need, _, v, H'⟩ => need ∧ match closeV H.n H' v with
    | some v => putK N o.dst v T K
    | none => False
  | none => False
def maskT (ops : List Oper) (deps : List Nat) (T : Tmps) : Nat → Tmps
  | 0 => T
  | i + 1 => match dstOf ops i with
    | some d => bif memB i deps then maskT ops deps T i else (d, .undef) :: maskT ops deps T i
    | none => maskT ops deps T i
def preD (E : Env) (N : Nat) (ops : List Oper) (H : Heap) : List Oper → Nat → Tmps → (Tmps → Prop) → Prop
  | [], _, T, K => K T
  | o :: rest, k, T, K => match o.guard with
    | none => preK E N o (maskT ops (depsOf o) T k) T H fun T => preD E N ops H rest (k + 1) T K
    | some (j, want) => match dstOf ops j with
      | none => False
      | some d => match lookT (maskT ops (depsOf o) T k) d with
        | .bool b => bif Nat.blt d N then (b = want → preK E N o ((d, .bool want) :: maskT ops (depsOf o) T k) ((d, .bool want) :: T) H fun T => preD E N ops H rest (k + 1) T K) ∧ (b = (!want) → putK N o.dst (.tup []) ((d, .bool (!want)) :: T) fun T => preD E N ops H rest (k + 1) T K) else False
        | .tup [] => putK N o.dst (.tup []) T fun T => preD E N ops H rest (k + 1) T K
        | _ => False
def drawD (E : Env) (N : Nat) (ops : List Oper) (m : Nat) (T : Tmps) (H : Heap) (K : Tmps → Heap → Prop) : Prop :=
  freeOk ops.toArray m = true ∧ preD E N ops H (ops.take m) 0 T fun T' => regD E N ops (ops.drop m) T' H K
/-! ### regions that draw their order and write -/
def memN (k : Nat) : List Nat → Bool
  | [] => false
  | e :: r => bif Nat.beq e k then true else memN k r
def cntW (W : List Nat) : Nat → Nat
  | 0 => 0
  | i + 1 => bif memN i W then cntW W i + 1 else cntW W i
def eqBb : Bool → Bool → Bool
  | true, b => b
  | false, b => !b
def memP (i j : Nat) : List (Nat × Nat) → Bool
  | [] => false
  | (a, b) :: r => bif Nat.beq a i && Nat.beq b j then true else memP i j r
/-- May an operation run behind so many of the writing ones? -/
def possB (ops : Array Oper) (m : Nat) (W : List Nat) (i j : Nat) : Bool :=
  (List.range m).all fun e => !memN e W || (bif Nat.blt (cntW W e) j then !reach ops 6 e i else !reach ops 6 i e)
def wrOk (N : Nat) (ops : Array Oper) (m : Nat) (W : List Nat) (Z : List (Nat × Nat)) : Bool :=
  ((List.range m).all fun i => match dstAt ops i with | none => true | some d => Nat.blt d N) &&
  ((List.range m).all fun e => !memN e W || (List.range e).all fun f => !memN f W || reach ops 6 e f) &&
  ((List.range m).all fun i => memN i W || (List.range (cntW W m + 1)).all fun j => Nat.beq j (cntW W i) || !possB ops m W i j || memP i j Z)
def stAt : List Heap → Nat → Option Heap
  | [], _ => none
  | H :: r, j => bif Nat.beq j r.length then some H else stAt r j
def planD (E : Env) (N : Nat) (ops : List Oper) (m : Nat) (W : List Nat) : List Oper → Nat → Tmps → Heap → List Heap → (Tmps → Heap → List Heap → Prop) → Prop
  | [], _, T, H, Hs, K => K T H Hs
  | o :: rest, k, T, H, Hs, K => match o.guard with
    | none => bif memN k W then (match opD E o.op (rho (maskT ops (depsOf o) T m)) H with
        | some ⟨need, _, v, H'⟩ => need ∧ putK N o.dst v T fun T => forceH H' fun H' => planD E N ops m W rest (k + 1) T H' (H :: Hs) K
        | none => False) else preK E N o (maskT ops (depsOf o) T m) T H fun T => planD E N ops m W rest (k + 1) T H Hs K
    | some (j, want) => match dstOf ops j with
      | none => False
      | some d => match lookT (maskT ops (depsOf o) T m) d with
        | .bool b => bif Nat.blt d N then (b = want → bif memN k W then (match opD E o.op (rho ((d, .bool want) :: maskT ops (depsOf o) T m)) H with
            | some ⟨need, _, v, H'⟩ => need ∧ putK N o.dst v ((d, .bool want) :: T) fun T => forceH H' fun H' => planD E N ops m W rest (k + 1) T H' (H :: Hs) K
            | none => False) else preK E N o ((d, .bool want) :: maskT ops (depsOf o) T m) ((d, .bool want) :: T) H fun T => planD E N ops m W rest (k + 1) T H Hs K) ∧
            (b = (!want) → putK N o.dst (.tup []) ((d, .bool (!want)) :: T) fun T => bif memN k W then planD E N ops m W rest (k + 1) T H (H :: Hs) K else planD E N ops m W rest (k + 1) T H Hs K) else False
        | .tup [] => putK N o.dst (.tup []) T fun T => bif memN k W then planD E N ops m W rest (k + 1) T H (H :: Hs) K else planD E N ops m W rest (k + 1) T H Hs K
        | _ => False
def valOf (o : Oper) (T : Tmps) : AV :=
  match o.dst with
  | some d => lookT T d
  | none => .undef
def sameV (v : AV) : AV → Prop
  | .undef => True
  | .bool c => match v with
    | .bool b => b = c
    | _ => False
  | u => v = u
def chkV (E : Env) (o : Oper) (ops : List Oper) (m : Nat) (T : Tmps) (H : Heap) : Prop :=
  match opD E o.op (rho (maskT ops (depsOf o) T m)) H.lock with
  | some ⟨need, _, v, H'⟩ => need ∧ match closeV H.n H' v with
    | some v => sameV v (valOf o T)
    | none => False
  | none => False
def chk1 (E : Env) (N : Nat) (o : Oper) (ops : List Oper) (m : Nat) (T : Tmps) (H : Heap) : Prop :=
  match o.guard with
  | none => chkV E o ops m T H
  | some (j, want) => match dstOf ops j with
    | none => False
    | some d => match lookT (maskT ops (depsOf o) T m) d with
      | .bool c => bif Nat.blt d N then (bif eqBb c want then chkV E o ops m T H else sameV (.tup []) (valOf o T)) else False
      | .tup [] => sameV (.tup []) (valOf o T)
      | _ => False
def checkD (E : Env) (N : Nat) (ops : List Oper) (m : Nat) (T : Tmps) (Hs : List Heap) : List (Nat × Nat) → Prop
  | [] => True
  | (i, j) :: Z => (match ops[i]? with
    | some o => match stAt Hs j with
      | some H => chk1 E N o ops m T H
      | none => False
    | none => False) ∧ checkD E N ops m T Hs Z
def drawE (E : Env) (N : Nat) (ops : List Oper) (m : Nat) (W : List Nat) (Z : List (Nat × Nat)) (T : Tmps) (H : Heap) (K : Tmps → Heap → Prop) : Prop :=
  freeOk ops.toArray m = true ∧ wrOk N ops.toArray m W Z = true ∧ planD E N ops m W (ops.take m) 0 T H [] fun T' H' Hs => checkD E N ops m T' (H' :: Hs) Z ∧ regD E N ops (ops.drop m) T' H' K
end
end Go.Proofs.YtpkidbhpfohopaaDoor

noncomputable section
namespace Go.Proofs.YtpkidbhpfohopaaDoor
open Go.RowKit
set_option linter.unusedVariables false
set_option linter.unusedSimpArgs false
section
variable {P : Program} {E : Env} {F : Nat → Prop} {φ : Nat → RS} {H : Heap} {w : World} {N : Nat} {T : Tmps} {a : Act}
theorem memB_iff {i : Nat} {l : List Nat} : memB i l = true ↔ i ∈ l := by
  induction l with
  | nil => simp [memB]
  | cons b l ih => simp [memB, ih]
theorem maskT_look {ops : List Oper} {deps : List Nat} {T : Tmps} {t : Nat} : ∀ (k : Nat), (lookT (maskT ops deps T k) t = lookT T t ∧ ∀ i, i < k → dstOf ops i = some t → i ∈ deps) ∨ lookT (maskT ops deps T k) t = .undef
  | 0 => .inl ⟨rfl, fun i hi => absurd hi (Nat.not_lt_zero _)⟩
  | k + 1 => by
    have ih := maskT_look (ops := ops) (deps := deps) (T := T) (t := t) k
    rw [maskT]
    cases hd : dstOf ops k with
    | none =>
      simp only
      rcases ih with ⟨h1, h2⟩ | h
      · refine .inl ⟨h1, fun i hi hdi => ?_⟩
        rcases Nat.lt_or_ge i k with h | h
        · exact h2 i h hdi
        · have : i = k := by omega
          subst this
          rw [hd] at hdi
          cases hdi
      · exact .inr h
    | some d =>
      simp only [Bool.cond_eq_ite]
      split
      · rename_i hm
        rcases ih with ⟨h1, h2⟩ | h
        · refine .inl ⟨h1, fun i hi hdi => ?_⟩
          rcases Nat.lt_or_ge i k with h | h
          · exact h2 i h hdi
          · have : i = k := by omega
            subst this
            exact memB_iff.1 hm
        · exact .inr h
      · rename_i hm
        rw [lookT_cons]
        by_cases e : t = d
        · rw [if_pos e]; exact .inr rfl
        · rw [if_neg e]
          rcases ih with ⟨h1, h2⟩ | h
          · refine .inl ⟨h1, fun i hi hdi => ?_⟩
            rcases Nat.lt_or_ge i k with h | h
            · exact h2 i h hdi
            · have : i = k := by omega
              subst this
              rw [hd] at hdi
              injection hdi with hdi
              exact absurd hdi.symm e
          · exact .inr h
/-- What is known of the temporaries while the operations of a region are told one by one. -/
structure PInv (F : Nat → Prop) (φ : Nat → RS) (H : Heap) (S : World → Prop) (N : Nat) (ops : List Oper) (k : Nat) (T : Tmps) (a : Act) (Hs : List (World → Prop)) : Prop where
  size : a.tmps.size = N
  defers : a.defers = []
  len : Hs.length = k
  get : ∀ t w, S w → (∀ i, i < k → dstOf ops i = some t → (Hs.getD i yes) w) → RV (cx F φ H w) (lookT T t) (a.tmps.getD t undef)
theorem PInv.mask {S : World → Prop} {ops : List Oper} {k : Nat} {Hs : List (World → Prop)} (h : PInv F φ H S N ops k T a Hs) {deps : List Nat} {w : World} (hS : S w) (hd : ∀ j ∈ deps, (Hs.getD j yes) w) : TRel F φ H w N (maskT ops deps T k) a := by
  refine ⟨h.size, fun t => ?_, h.defers⟩
  rcases maskT_look (ops := ops) (deps := deps) (T := T) (t := t) k with ⟨h1, h2⟩ | h1
  · rw [h1]
    exact h.get t w hS fun i hi hdi => hd i (h2 i hi hdi)
  · rw [h1]; trivial
theorem PInv.all {S : World → Prop} {ops : List Oper} {k : Nat} {Hs : List (World → Prop)} (h : PInv F φ H S N ops k T a Hs) {w : World} (hS : S w) (hd : ∀ f ∈ Hs, f w) : TRel F φ H w N T a := by
  refine ⟨h.size, fun t => h.get t w hS fun i hi hdi => ?_, h.defers⟩
  rw [List.getD_eq_getElem?_getD, List.getElem?_eq_getElem (by rw [h.len]; exact hi)]
  exact hd _ (List.getElem_mem _)
/-- One operation told: what it gives is known as a fact of its own. -/
theorem PInv.next {S : World → Prop} {ops : List Oper} {k : Nat} {Hs : List (World → Prop)} (h : PInv F φ H S N ops k T a Hs) {o : Oper} (ho : ops[k]? = some o) (huniq : ∀ i t, i < k → dstOf ops i = some t → o.dst ≠ some t) (v : AV) (u : Value) {T' : Tmps} (hT' : (o.dst = none ∧ T' = T) ∨ ∃ d, o.dst = some d ∧ d < N ∧ T' = (d, v) :: T) :
    PInv F φ H S N ops (k + 1) T' (a.put o.dst u) (Hs ++ [fun w => RV (cx F φ H w) v u]) := by
  have hk : dstOf ops k = o.dst := by simp [dstOf, ho]
  have hlast : (Hs ++ [fun w => RV (cx F φ H w) v u]).getD k yes = fun w => RV (cx F φ H w) v u := by
    rw [List.getD_eq_getElem?_getD, List.getElem?_append_right (by rw [h.len]; exact Nat.le_refl _), h.len]
    simp
  have hold : ∀ i, i < k → (Hs ++ [fun w => RV (cx F φ H w) v u]).getD i yes = Hs.getD i yes := fun i hi => getD_left _ _ _ (by rw [h.len]; exact hi)
  rcases hT' with ⟨hd, rfl⟩ | ⟨d, hd, hdN, rfl⟩
  · rw [hd]
    refine ⟨h.size, h.defers, by simp [h.len], fun t w hS hf => h.get t w hS fun i hi hdi => ?_⟩
    have := hf i (by omega) hdi
    rwa [hold i hi] at this
  · rw [hd]
    refine ⟨by simp [Act.put, h.size], h.defers, by simp [h.len], fun t w hS hf => ?_⟩
    rw [lookT_cons]
    by_cases e : t = d
    · subst e
      rw [if_pos rfl]
      have h1 : (a.put (some t) u).tmps.getD t undef = u := by simp [Act.put, Array.getD_eq_getD_getElem?, h.size, hdN]
      rw [h1]
      have := hf k (by omega) (by rw [hk, hd])
      rwa [hlast] at this
    · rw [if_neg e]
      have h1 : (a.put (some d) u).tmps.getD t undef = a.tmps.getD t undef := by
        simp only [Act.put, Array.getD_eq_getD_getElem?]
        rw [Array.getElem?_setIfInBounds_ne (Ne.symm e)]
      rw [h1]
      refine h.get t w hS fun i hi hdi => ?_
      have := hf i (by omega) hdi
      rwa [hold i hi] at this
theorem putK_cases {dst : Option Tmp} {v : AV} {T : Tmps} {K : Tmps → Prop} (h : putK N dst v T K) : ∃ T', K T' ∧ ((dst = none ∧ T' = T) ∨ ∃ d, dst = some d ∧ d < N ∧ T' = (d, v) :: T) := by
  unfold putK at h
  cases dst with
  | none => exact ⟨T, h, .inl ⟨rfl, rfl⟩⟩
  | some d =>
    simp only [Bool.cond_eq_ite] at h
    split at h
    · rename_i hd
      rw [force_eq] at h
      exact ⟨_, h, .inr ⟨d, rfl, by simpa using hd, rfl⟩⟩
    · exact h.elim
variable {φ0 : Nat → RS} {H0 : Heap} {w0 : World}
theorem below_le {w' : World} (hb : Below w.heap.size w w') : (cx F φ H w).Le (cx F φ H w') := ⟨fun _ _ => rfl, Nat.le_refl _, fun _ _ h => h, hb.size, fun b hb' _ => hb.block b hb', fun _ _ h => h⟩
theorem Give.mono {G G' : Value → World → Prop} {r : Result Next} (h : Give P G r) (hg : ∀ v w, G v w → G' v w) : Give P G' r := by
  cases r with
  | ok n w => cases n <;> simp only [Give] at h ⊢ <;> first | exact hg _ _ h | (exact Calls.mono h fun e w' ⟨v, he, hh⟩ => ⟨v, he, hg _ _ hh⟩) | exact h.elim
  | halt x w => exact h.elim
theorem preK_get {o : Oper} {T0 T : Tmps} {K : Tmps → Prop} (h : preK E N o T0 T H K) : ∃ r v, opD E o.op (rho T0) H.lock = some r ∧ r.need ∧ closeV H.n r.H r.v = some v ∧ putK N o.dst v T K := by
  unfold preK at h
  split at h
  · rename_i need know v0 H' hr
    obtain ⟨h1, h2⟩ := h
    split at h2
    · rename_i v hv
      exact ⟨_, v, hr, h1, hv, h2⟩
    · exact h2.elim
  · exact h.elim
theorem preK_does (hE : E.Ok P) {o : Oper} {T0 : Tmps} {r : Res} {v : AV} (h1 : opD E o.op (rho T0) H.lock = some r) (h2 : r.need) (h3 : closeV H.n r.H r.v = some v) (hR : Rel F φ H w) (hT : TRel F φ H w N T0 a) :
    Give P (fun u w' => RV (cx F φ H w') v u ∧ Below w.heap.size w w') ((execOp a.eval o).run P w) := by
  obtain ⟨-, h4⟩ := op_ok hE hR.lock (rho_ok (hT.mono lock_le)) h1 h2
  refine h4.mono fun u w' ⟨φ', hv, hR', hX⟩ => ⟨closeV_ok hR' hX hR h3 hv, hX.os, hX.tape, hX.output, hX.le.size, fun b hb => hX.le.blk b hb lock_wr⟩
theorem pre_ok (hE : E.Ok P) {ops : Array Oper} {Q : Exit → Act → World → Prop} {suf : List Oper} {S : World → Prop} (hSR : ∀ w, S w → Rel F φ H w)
    {K : Tmps → Prop} (hK : ∀ T a Hs k, K T → PInv F φ H S N ops.toList k T a Hs → ∀ w, S w → (∀ f ∈ Hs, f w) → wpList P ops Q suf a w) :
    ∀ (rest : List Oper) (k : Nat) (T : Tmps), (∀ j o, rest[j]? = some o → ops.toList[k + j]? = some o) → (∀ j o, rest[j]? = some o → ∀ i t, i < k + j → dstOf ops.toList i = some t → o.dst ≠ some t) →
      preD E N ops.toList H rest k T K → ∃ L, ∀ a Hs, PInv F φ H S N ops.toList k T a Hs → Loose P ops Q S L rest suf a Hs
  | [], k, T, hat, hu, h => ⟨[], fun a Hs hI => Loose.nil fun w hS hf => hK T a Hs k h hI w hS hf⟩
  | o :: rest, k, T, hat, hu, h => by
    have ho : ops.toList[k]? = some o := hat 0 o rfl
    have hat' : ∀ j o, rest[j]? = some o → ops.toList[k + 1 + j]? = some o := fun j o' hj => by
      have := hat (j + 1) o' (by simpa using hj)
      rwa [show k + (j + 1) = k + 1 + j from by omega] at this
    have hu' : ∀ j o, rest[j]? = some o → ∀ i t, i < k + 1 + j → dstOf ops.toList i = some t → o.dst ≠ some t := fun j o' hj i t hi => hu (j + 1) o' (by simpa using hj) i t (by omega)
    have hu0 := hu 0 o rfl
    have go : ∀ (v : AV) (T' : Tmps) (T1 : Tmps), (∀ a Hs, PInv F φ H S N ops.toList k T a Hs → PInv F φ H S N ops.toList k T1 a Hs) → preD E N ops.toList H rest (k + 1) T' K → ((o.dst = none ∧ T' = T1) ∨ ∃ d, o.dst = some d ∧ d < N ∧ T' = (d, v) :: T1) →
        (∀ a Hs, PInv F φ H S N ops.toList k T a Hs → ∀ w, S w → (∀ j ∈ depsOf o, (Hs.getD j yes) w) → Does P ops o a w fun u w' => RV (cx F φ H w') v u ∧ Below w.heap.size w w') → ∃ L, ∀ a Hs, PInv F φ H S N ops.toList k T a Hs → Loose P ops Q S L (o :: rest) suf a Hs := fun v T' T1 hI1 hr hT' hd => by
      obtain ⟨L, hL⟩ := pre_ok hE hSR hK rest (k + 1) T' hat' hu' hr
      exact ⟨.loose (fun u w => RV (cx F φ H w) v u) :: L, fun a Hs hI => Loose.loose _ (fun u w w' hb hv => hv.mono (below_le hb)) (hd a Hs hI) (fun _ => rfl) fun u => hL _ _ ((hI1 a Hs hI).next ho (fun i t hi => hu0 i t (by omega)) v u hT')⟩
    rw [preD] at h
    split at h
    · rename_i hg
      obtain ⟨r, v, h1, h2, h3, h4⟩ := preK_get h
      obtain ⟨T', h5, h6⟩ := putK_cases h4
      refine go v T' T (fun _ _ h => h) h5 h6 fun a Hs hI w hS hd => ?_
      have hw : Region.wanted o (yielded ops a.tmps) = true := by simp [Region.wanted, hg]
      unfold Does
      rw [if_pos hw]
      exact preK_does hE h1 h2 h3 (hSR w hS) (hI.mask hS hd)
    · rename_i j want hg
      split at h
      · exact h.elim
      · rename_i d hd
        split at h
        · rename_i b hb
          rw [Bool.cond_eq_ite] at h
          split at h
          · rename_i hlt
            have hlt : d < N := by simpa using hlt
            have hbT : lookT T d = .bool b := by
              rcases maskT_look (ops := ops.toList) (deps := depsOf o) (T := T) (t := d) k with ⟨h1, -⟩ | h1
              · rw [← h1]; exact hb
              · rw [h1] at hb; cases hb
            have hwant : ∀ a Hs, PInv F φ H S N ops.toList k T a Hs → ∀ w, S w → (∀ j ∈ depsOf o, (Hs.getD j yes) w) → Region.wanted o (yielded ops a.tmps) = (b == want) := fun a Hs hI w hS hf => by
              have hT0 := hI.mask (deps := depsOf o) hS hf
              have hv := rv_bool_inv (by have := hT0.get d; rwa [hb] at this)
              have hy := yielded_get hd hv (by rw [hI.size]; exact hlt)
              simp [Region.wanted, hg, hy]
            have known : ∀ c, b = c → ∀ a Hs, PInv F φ H S N ops.toList k T a Hs → PInv F φ H S N ops.toList k ((d, .bool c) :: T) a Hs := fun c hc a Hs hI => by
              refine ⟨hI.size, hI.defers, hI.len, fun t w hS hf => ?_⟩
              rw [lookT_cons]
              split
              · rename_i e
                subst e
                have := hI.get t w hS hf
                rwa [hbT, hc] at this
              · exact hI.get t w hS hf
            by_cases e : b = want
            · obtain ⟨r, v, h1, h2, h3, h4⟩ := preK_get (h.1 e)
              obtain ⟨T', h5, h6⟩ := putK_cases h4
              refine go v T' _ (known want e) h5 h6 fun a Hs hI w hS hf => ?_
              unfold Does
              rw [hwant a Hs hI w hS hf, if_pos (by simpa using e)]
              exact preK_does hE h1 h2 h3 (hSR w hS) ((hI.mask hS hf).known hb e)
            · have e' : b = !want := by cases b <;> cases want <;> simp_all
              obtain ⟨T', h5, h6⟩ := putK_cases (h.2 e')
              refine go (.tup []) T' _ (known (!want) e') h5 h6 fun a Hs hI w hS hf => ?_
              unfold Does
              rw [hwant a Hs hI w hS hf, if_neg (by simpa using e)]
              exact ⟨rv_skip, Below.refl _ _⟩
          · exact h.elim
        · rename_i hb
          have hbT : lookT T d = .tup [] := by
            rcases maskT_look (ops := ops.toList) (deps := depsOf o) (T := T) (t := d) k with ⟨h1, -⟩ | h1
            · rw [← h1]; exact hb
            · rw [h1] at hb; cases hb
          obtain ⟨T', h5, h6⟩ := putK_cases h
          refine go (.tup []) T' T (fun _ _ h => h) h5 h6 fun a Hs hI w hS hf => ?_
          have hT0 := hI.mask (deps := depsOf o) hS hf
          have hv := hT0.get d
          rw [hb] at hv
          obtain ⟨vs, e, hr⟩ := hv
          have e0 : vs = [] := by cases vs <;> first | rfl | exact hr.elim
          subst e0
          have hy := yielded_none hd e
          have hw : Region.wanted o (yielded ops a.tmps) = false := by simp [Region.wanted, hg, hy]
          unfold Does
          rw [hw, if_neg (by decide)]
          exact ⟨rv_skip, Below.refl _ _⟩
        · exact h.elim
/-- A region that draws its order. -/
theorem draw_ok (hE : E.Ok P) (hmix : P.follows .mixedOrders = true) {ops : Array Oper} {id m : Nat} {Q : Exit → Act → World → Prop} {K : Tmps → Heap → Prop} (h : drawD E N ops.toList m T H K) (hB : Base F φ0 H0 w0 φ H w) (hT : TRel F φ H w N T a)
    (hQ : ∀ T' H' φ' w' a', K T' H' → Base F φ0 H0 w0 φ' H' w' → TRel F φ' H' w' N T' a' → Q .normal a' w') : (Code.region id ops true).wp P Q a w := by
  obtain ⟨hfree, h⟩ := h
  simp only [Array.toArray_toList] at hfree
  have hF := freeOk_spec hfree
  have hat : ∀ j o, (ops.toList.take m)[j]? = some o → ops.toList[0 + j]? = some o ∧ j < m := fun j o hj => by
    rw [List.getElem?_take] at hj
    split at hj
    · rename_i hlt
      rw [Nat.zero_add]
      exact ⟨hj, hlt⟩
    · cases hj
  have dstA : ∀ i, dstOf ops.toList i = dstAt ops i := fun i => by
    unfold dstOf dstAt
    rw [Array.getElem?_toList]
    cases ops[i]? <;> rfl
  let S : World → Prop := fun x => Below w.heap.size w x
  have hSB : ∀ x, S x → Base F φ0 H0 w0 φ H x := fun x hx => by
    obtain ⟨g1, g2⟩ := hB.rel.below hx
    exact ⟨g1, hB.ext.trans g2, hB.lt0⟩
  obtain ⟨L, hL⟩ := pre_ok (P := P) (Q := Q) (S := S) (suf := ops.toList.drop m) hE (fun x hx => (hSB x hx).rel) (fun T' a' Hs k hk hI x hx hf =>
      reg_ok hE (ops.toList.drop m) T' H φ x a' K hk (hSB x hx) (hI.all hx hf) hQ) (ops.toList.take m) 0 T (fun j o hj => (hat j o hj).1) (fun j o hj i t hi hdi he => by
        obtain ⟨h1, h2⟩ := hat j o hj
        rw [Nat.zero_add] at h1 hi
        have h3 : dstAt ops j = some t := by rw [← dstA, dstOf, h1]; exact he
        have := hF.uniq i j t (by omega) h2 (by rw [← dstA]; exact hdi) h3
        omega) h
  refine wp_region_loose hmix S m hfree (fun x x' hb hx => Below.trans hx (hb.mono hx.size)) (Below.drew (Below.refl _ _)) (L := L) (hL a [] ⟨hT.size, hT.defers, rfl, fun t x hx _ => (hT.get t).mono (below_le hx)⟩)
/-! ### regions that draw their order and write -/
theorem maskT_iff {ops : List Oper} {deps : List Nat} {T : Tmps} {t : Nat} : ∀ (k : Nat), ((∀ i, i < k → dstOf ops i = some t → i ∈ deps) ∧ lookT (maskT ops deps T k) t = lookT T t) ∨ ((¬ ∀ i, i < k → dstOf ops i = some t → i ∈ deps) ∧ lookT (maskT ops deps T k) t = .undef)
  | 0 => .inl ⟨fun i hi => absurd hi (Nat.not_lt_zero _), rfl⟩
  | k + 1 => by
    have ih := maskT_iff (ops := ops) (deps := deps) (T := T) (t := t) k
    have up : (∀ i, i < k → dstOf ops i = some t → i ∈ deps) → (dstOf ops k = some t → k ∈ deps) → ∀ i, i < k + 1 → dstOf ops i = some t → i ∈ deps := fun h1 h2 i hi hd => by
      rcases Nat.lt_or_ge i k with h | h
      · exact h1 i h hd
      · have : i = k := by omega
        subst this
        exact h2 hd
    have down : (¬ ∀ i, i < k → dstOf ops i = some t → i ∈ deps) → ¬ ∀ i, i < k + 1 → dstOf ops i = some t → i ∈ deps := fun h1 h2 => h1 fun i hi hd => h2 i (by omega) hd
    rw [maskT]
    cases hd : dstOf ops k with
    | none =>
      simp only
      rcases ih with ⟨h1, h2⟩ | ⟨h1, h2⟩
      · exact .inl ⟨up h1 (fun h => by rw [hd] at h; cases h), h2⟩
      · exact .inr ⟨down h1, h2⟩
    | some d =>
      simp only [Bool.cond_eq_ite]
      split
      · rename_i hm
        rcases ih with ⟨h1, h2⟩ | ⟨h1, h2⟩
        · exact .inl ⟨up h1 fun _ => memB_iff.1 hm, h2⟩
        · exact .inr ⟨down h1, h2⟩
      · rename_i hm
        rw [lookT_cons]
        by_cases e : t = d
        · subst e
          rw [if_pos rfl]
          refine .inr ⟨fun h => hm (memB_iff.2 (h k (by omega) hd)), rfl⟩
        · rw [if_neg e]
          rcases ih with ⟨h1, h2⟩ | ⟨h1, h2⟩
          · exact .inl ⟨up h1 (fun h => by rw [hd] at h; injection h with h; exact absurd h.symm e), h2⟩
          · exact .inr ⟨down h1, h2⟩
theorem TRel.remask {ops : List Oper} {deps : List Nat} {m : Nat} {T' : Tmps} (h : TRel F φ H w N (maskT ops deps T m) a) (he : ∀ t, (∀ i, i < m → dstOf ops i = some t → i ∈ deps) → lookT T t = lookT T' t) : TRel F φ H w N (maskT ops deps T' m) a := by
  refine ⟨h.size, fun t => ?_, h.defers⟩
  have h1 := h.get t
  rcases maskT_iff (ops := ops) (deps := deps) (T := T) (t := t) m with ⟨g1, g2⟩ | ⟨g1, g2⟩ <;> rcases maskT_iff (ops := ops) (deps := deps) (T := T') (t := t) m with ⟨k1, k2⟩ | ⟨k1, k2⟩
  · rw [k2, ← he t k1, ← g2]; exact h1
  · exact absurd g1 k1
  · exact absurd k1 g1
  · rw [k2]; trivial
theorem ne_not {b want : Bool} (h : ¬ b = want) : b = !want := by cases b <;> cases want <;> first | rfl | exact absurd rfl h
theorem not_true {b : Bool} (h : ¬ b = true) : b = false := by cases b <;> first | rfl | exact absurd rfl h
theorem memN_iff {i : Nat} {l : List Nat} : memN i l = true ↔ i ∈ l := by
  induction l with
  | nil => simp [memN]
  | cons b l ih =>
    rw [memN, Bool.cond_eq_ite]
    split
    · rename_i h
      have := Nat.eq_of_beq_eq_true h
      subst this
      simp
    · rename_i h
      rw [ih, List.mem_cons]
      constructor
      · exact .inr
      · rintro (rfl | h')
        · exact absurd (Nat.beq_refl _) h
        · exact h'
theorem memP_iff {i j : Nat} {l : List (Nat × Nat)} (h : memP i j l = true) : (i, j) ∈ l := by
  induction l with
  | nil => cases h
  | cons b l ih =>
    obtain ⟨x, y⟩ := b
    rw [memP, Bool.cond_eq_ite] at h
    split at h
    · rename_i hc
      simp only [Bool.and_eq_true] at hc
      rw [Nat.eq_of_beq_eq_true hc.1, Nat.eq_of_beq_eq_true hc.2]
      exact List.mem_cons_self
    · exact List.mem_cons_of_mem _ (ih h)
theorem cntW_succ (W : List Nat) (i : Nat) : cntW W (i + 1) = if memN i W then cntW W i + 1 else cntW W i := by
  rw [cntW, Bool.cond_eq_ite]
theorem cntW_mono {W : List Nat} {i j : Nat} (h : i ≤ j) : cntW W i ≤ cntW W j := by
  induction h with
  | refl => exact Nat.le_refl _
  | step h ih => rw [cntW_succ]; split <;> omega
theorem cntW_lt {W : List Nat} {i j : Nat} (h : i < j) (hi : memN i W = true) : cntW W i < cntW W j := by
  have := cntW_mono (W := W) (Nat.succ_le_of_lt h)
  rw [Nat.succ_eq_add_one, cntW_succ, if_pos hi] at this
  omega
theorem cntW_hit {W : List Nat} {q : Nat} : ∀ (j : Nat), q < cntW W j → ∃ f, f < j ∧ memN f W = true ∧ cntW W f = q
  | 0, h => absurd h (Nat.not_lt_zero _)
  | j + 1, h => by
    rw [cntW_succ] at h
    split at h
    · rename_i hm
      by_cases e : q < cntW W j
      · obtain ⟨f, h1, h2, h3⟩ := cntW_hit j e
        exact ⟨f, by omega, h2, h3⟩
      · exact ⟨j, by omega, hm, by omega⟩
    · obtain ⟨f, h1, h2, h3⟩ := cntW_hit j h
      exact ⟨f, by omega, h2, h3⟩
theorem sameV_ok {C : Cx} {v u : AV} {x : Value} (h : sameV v u) (hv : RV C v x) : RV C u x := by
  unfold sameV at h
  split at h
  · trivial
  · split at h
    · rw [← h]; exact hv
    · exact h.elim
  · rw [← h]; exact hv
/-- What is known of an operation that doesn't write. -/
def Fact (P : Program) (opsA : Array Oper) (m : Nat) (N : Nat) (Tf : Tmps) (Hj : Heap) (o : Oper) : Prop :=
  ∀ (F : Nat → Prop) φ w a, Rel F φ Hj w → TRel F φ Hj w N (maskT opsA.toList (depsOf o) Tf m) a → Does P opsA o a w fun u w' => RV (cx F φ Hj w') (valOf o Tf) u ∧ Below w.heap.size w w'
/-- What is known of one that writes. -/
def WFact (P : Program) (opsA : Array Oper) (m : Nat) (N : Nat) (Tf : Tmps) (Hj Hk : Heap) (o : Oper) : Prop :=
  ∀ (F : Nat → Prop) φ w a, Rel F φ Hj w → TRel F φ Hj w N (maskT opsA.toList (depsOf o) Tf m) a → Does P opsA o a w fun u w' => ∃ φ', Rel F φ' Hk w' ∧ Ext F φ Hj w φ' Hk w' ∧ RV (cx F φ' Hk w') (valOf o Tf) u
theorem valOf_put {o : Oper} {v : AV} {T T1 Tf : Tmps} (h : (o.dst = none ∧ T = T1) ∨ ∃ d, o.dst = some d ∧ d < N ∧ T = (d, v) :: T1) (he : ∀ d, o.dst = some d → lookT Tf d = lookT T d) : valOf o Tf = v ∨ valOf o Tf = .undef := by
  rcases h with ⟨h1, -⟩ | ⟨d, h1, -, rfl⟩
  · right; simp [valOf, h1]
  · left
    simp only [valOf, h1, he d h1, lookT_cons, if_pos]
theorem rv_valOf {C : Cx} {o : Oper} {v : AV} {Tf : Tmps} {x : Value} (h : valOf o Tf = v ∨ valOf o Tf = .undef) (hv : RV C v x) : RV C (valOf o Tf) x := by
  rcases h with h | h <;> rw [h]
  · exact hv
  · trivial
theorem guard_want {opsA : Array Oper} {o : Oper} {deps : List Nat} {m j d : Nat} {want b : Bool} (hT : TRel F φ H w N T a) (hg : o.guard = some (j, want)) (hd : dstOf opsA.toList j = some d) (hb : lookT T d = .bool b) (hlt : d < N) : Region.wanted o (yielded opsA a.tmps) = (b == want) := by
  have hv := rv_bool_inv (by have := hT.get d; rwa [hb] at this)
  have hy := yielded_get hd hv (by rw [hT.size]; exact hlt)
  simp [Region.wanted, hg, hy]
theorem guard_skip {opsA : Array Oper} {o : Oper} {j d : Nat} {want : Bool} (hT : TRel F φ H w N T a) (hg : o.guard = some (j, want)) (hd : dstOf opsA.toList j = some d) (hb : lookT T d = .tup []) : Region.wanted o (yielded opsA a.tmps) = false := by
  have hv := hT.get d
  rw [hb] at hv
  obtain ⟨vs, e, hr⟩ := hv
  have e0 : vs = [] := by cases vs <;> first | rfl | exact hr.elim
  subst e0
  have hy := yielded_none hd e
  simp [Region.wanted, hg, hy]
set_option maxHeartbeats 1000000 in
theorem plan_ok (hE : E.Ok P) {opsA : Array Oper} {m : Nat} {W : List Nat} {K : Tmps → Heap → List Heap → Prop} :
    ∀ (rest : List Oper) (k : Nat) (T : Tmps) (H : Heap) (Hs : List Heap), k + rest.length = m → (∀ j o, rest[j]? = some o → opsA.toList[k + j]? = some o) →
      (∀ i j t, i < m → j < m → dstOf opsA.toList i = some t → dstOf opsA.toList j = some t → i = j) → (∀ i o, i < m → opsA.toList[i]? = some o → ∀ d ∈ depsOf o, d < i) → Hs.length = cntW W k →
      planD E N opsA.toList m W rest k T H Hs K → ∃ Tf Hf Hsf, K Tf Hf Hsf ∧ (∀ t, (∀ i, k ≤ i → i < m → dstOf opsA.toList i ≠ some t) → lookT Tf t = lookT T t) ∧ Hsf.length = cntW W m ∧
        (∀ j, j ≤ Hs.length → stAt (Hf :: Hsf) j = stAt (H :: Hs) j) ∧
        (∀ i o, k ≤ i → i < m → opsA.toList[i]? = some o → memN i W = false → ∃ Hj, stAt (Hf :: Hsf) (cntW W i) = some Hj ∧ Fact P opsA m N Tf Hj o) ∧
        (∀ i o, k ≤ i → i < m → opsA.toList[i]? = some o → memN i W = true → ∃ Hj Hk, stAt (Hf :: Hsf) (cntW W i) = some Hj ∧ stAt (Hf :: Hsf) (cntW W i + 1) = some Hk ∧ WFact P opsA m N Tf Hj Hk o)
  | [], k, T, H, Hs, hk, hat, hu, hb, hl, h => by
    simp at hk
    subst hk
    exact ⟨T, H, Hs, h, fun t _ => rfl, hl, fun _ _ => rfl, fun i o h1 h2 => by omega, fun i o h1 h2 => by omega⟩
  | o :: rest, k, T, H, Hs, hk, hat, hu, hb, hl, h => by
    simp only [List.length_cons] at hk
    have hkm : k < m := by omega
    have ho : opsA.toList[k]? = some o := hat 0 o rfl
    have hdk : dstOf opsA.toList k = o.dst := by simp only [dstOf, ho]
    have hat' : ∀ j o, rest[j]? = some o → opsA.toList[k + 1 + j]? = some o := fun j o' hj => by
      have := hat (j + 1) o' (by simpa using hj)
      rwa [show k + (j + 1) = k + 1 + j from by omega] at this
    -- what stays the same up to the end
    have keep : ∀ (v : AV) (T1 T' Tf : Tmps), (∀ t, lookT T1 t = lookT T t) → ((o.dst = none ∧ T' = T1) ∨ ∃ d, o.dst = some d ∧ d < N ∧ T' = (d, v) :: T1) →
        (∀ t, (∀ i, k + 1 ≤ i → i < m → dstOf opsA.toList i ≠ some t) → lookT Tf t = lookT T' t) → (∀ t, (∀ i, k ≤ i → i < m → dstOf opsA.toList i ≠ some t) → lookT Tf t = lookT T t) ∧ (valOf o Tf = v ∨ valOf o Tf = .undef) := fun v T1 T' Tf h1 h2 h3 => by
      refine ⟨fun t ht => ?_, valOf_put h2 fun d hd => h3 d fun i hi hm he => ?_⟩
      · rw [h3 t fun i hi => ht i (by omega)]
        rcases h2 with ⟨-, rfl⟩ | ⟨d, h2, -, rfl⟩
        · exact h1 t
        · rw [lookT_cons, if_neg, h1]
          intro e
          subst e
          exact ht k (by omega) hkm (by rw [hdk, h2])
      · have := hu k i d hkm hm (by rw [hdk, hd]) he
        omega
    have mask : ∀ (Tf : Tmps), (∀ t, (∀ i, k ≤ i → i < m → dstOf opsA.toList i ≠ some t) → lookT Tf t = lookT T t) → ∀ (F : Nat → Prop) φ H w a, TRel F φ H w N (maskT opsA.toList (depsOf o) Tf m) a → TRel F φ H w N (maskT opsA.toList (depsOf o) T m) a := fun Tf hT F φ H w a h => h.remask fun t ht => hT t fun i hi hm he => by
      have := hb k o hkm ho i (ht i hm he)
      omega
    -- an operation that doesn't write
    have plain : ∀ (v : AV) (T1 T' : Tmps), memN k W = false → (∀ t, lookT T1 t = lookT T t) → ((o.dst = none ∧ T' = T1) ∨ ∃ d, o.dst = some d ∧ d < N ∧ T' = (d, v) :: T1) → planD E N opsA.toList m W rest (k + 1) T' H Hs K →
        (∀ (F : Nat → Prop) φ w a, Rel F φ H w → TRel F φ H w N (maskT opsA.toList (depsOf o) T m) a → Does P opsA o a w fun u w' => RV (cx F φ H w') v u ∧ Below w.heap.size w w') → ∃ Tf Hf Hsf, K Tf Hf Hsf ∧ (∀ t, (∀ i, k ≤ i → i < m → dstOf opsA.toList i ≠ some t) → lookT Tf t = lookT T t) ∧ Hsf.length = cntW W m ∧
        (∀ j, j ≤ Hs.length → stAt (Hf :: Hsf) j = stAt (H :: Hs) j) ∧
        (∀ i o, k ≤ i → i < m → opsA.toList[i]? = some o → memN i W = false → ∃ Hj, stAt (Hf :: Hsf) (cntW W i) = some Hj ∧ Fact P opsA m N Tf Hj o) ∧
        (∀ i o, k ≤ i → i < m → opsA.toList[i]? = some o → memN i W = true → ∃ Hj Hk, stAt (Hf :: Hsf) (cntW W i) = some Hj ∧ stAt (Hf :: Hsf) (cntW W i + 1) = some Hk ∧ WFact P opsA m N Tf Hj Hk o) := fun v T1 T' hW h1 h2 hr hd => by
      obtain ⟨Tf, Hf, Hsf, g1, g2, g3, g4, g5, g6⟩ := plan_ok hE rest (k + 1) T' H Hs (by omega) hat' hu hb (by rw [cntW_succ, hW, if_neg (by decide)]; exact hl) hr
      obtain ⟨k1, k2⟩ := keep v T1 T' Tf h1 h2 g2
      refine ⟨Tf, Hf, Hsf, g1, k1, g3, g4, fun i o' hi hm ho' hw => ?_, fun i o' hi hm ho' hw => ?_⟩
      · rcases Nat.lt_or_ge k i with h | h
        · exact g5 i o' h hm ho' hw
        · have : i = k := by omega
          subst this
          rw [ho] at ho'
          injection ho' with ho'
          subst ho'
          refine ⟨H, by rw [← hl, g4 _ (Nat.le_refl _), stAt, Nat.beq_refl]; rfl, fun F φ w a hB hT => (hd F φ w a hB (mask Tf k1 F φ H w a hT)).mono fun u w' ⟨p1, p2⟩ => ⟨rv_valOf k2 p1, p2⟩⟩
      · rcases Nat.lt_or_ge k i with h | h
        · exact g6 i o' h hm ho' hw
        · have : i = k := by omega
          subst this
          rw [hW] at hw
          cases hw
    -- one that writes
    have wr : ∀ (v : AV) (T1 T' : Tmps) (H' : Heap), memN k W = true → (∀ t, lookT T1 t = lookT T t) → ((o.dst = none ∧ T' = T1) ∨ ∃ d, o.dst = some d ∧ d < N ∧ T' = (d, v) :: T1) → planD E N opsA.toList m W rest (k + 1) T' H' (H :: Hs) K →
        (∀ (F : Nat → Prop) φ w a, Rel F φ H w → TRel F φ H w N (maskT opsA.toList (depsOf o) T m) a → Does P opsA o a w fun u w' => ∃ φ', Rel F φ' H' w' ∧ Ext F φ H w φ' H' w' ∧ RV (cx F φ' H' w') v u) → ∃ Tf Hf Hsf, K Tf Hf Hsf ∧ (∀ t, (∀ i, k ≤ i → i < m → dstOf opsA.toList i ≠ some t) → lookT Tf t = lookT T t) ∧ Hsf.length = cntW W m ∧
        (∀ j, j ≤ Hs.length → stAt (Hf :: Hsf) j = stAt (H :: Hs) j) ∧
        (∀ i o, k ≤ i → i < m → opsA.toList[i]? = some o → memN i W = false → ∃ Hj, stAt (Hf :: Hsf) (cntW W i) = some Hj ∧ Fact P opsA m N Tf Hj o) ∧
        (∀ i o, k ≤ i → i < m → opsA.toList[i]? = some o → memN i W = true → ∃ Hj Hk, stAt (Hf :: Hsf) (cntW W i) = some Hj ∧ stAt (Hf :: Hsf) (cntW W i + 1) = some Hk ∧ WFact P opsA m N Tf Hj Hk o) := fun v T1 T' H' hW h1 h2 hr hd => by
      obtain ⟨Tf, Hf, Hsf, g1, g2, g3, g4, g5, g6⟩ := plan_ok hE rest (k + 1) T' H' (H :: Hs) (by omega) hat' hu hb (by rw [cntW_succ, hW, if_pos rfl, List.length_cons, hl]) hr
      obtain ⟨k1, k2⟩ := keep v T1 T' Tf h1 h2 g2
      have st : ∀ j, j ≤ Hs.length → stAt (Hf :: Hsf) j = stAt (H :: Hs) j := fun j hj => by
        rw [g4 j (by simp; omega), stAt]
        have : Nat.beq j (H :: Hs).length = false := by
          cases hb : Nat.beq j (H :: Hs).length with
          | false => rfl
          | true => have := Nat.eq_of_beq_eq_true hb; simp at this; omega
        rw [this]; rfl
      refine ⟨Tf, Hf, Hsf, g1, k1, g3, st, fun i o' hi hm ho' hw => ?_, fun i o' hi hm ho' hw => ?_⟩
      · rcases Nat.lt_or_ge k i with h | h
        · exact g5 i o' h hm ho' hw
        · have : i = k := by omega
          subst this
          rw [hW] at hw
          cases hw
      · rcases Nat.lt_or_ge k i with h | h
        · exact g6 i o' h hm ho' hw
        · have : i = k := by omega
          subst this
          rw [ho] at ho'
          injection ho' with ho'
          subst ho'
          refine ⟨H, H', by rw [← hl, st _ (Nat.le_refl _), stAt, Nat.beq_refl]; rfl, by rw [← hl, g4 _ (by simp), stAt, List.length_cons, Nat.beq_refl]; rfl, fun F φ w a hB hT => (hd F φ w a hB (mask Tf k1 F φ H w a hT)).mono fun u w' ⟨φ', p1, p2, p3⟩ => ⟨φ', p1, p2, rv_valOf k2 p3⟩⟩
    have doesW : ∀ (T0 : Tmps) (need know : Prop) (v : AV) (H' : Heap), opD E o.op (rho T0) H = some ⟨need, know, v, H'⟩ → need → ∀ (F : Nat → Prop) φ w a, Rel F φ H w → TRel F φ H w N T0 a → Give P (fun u w' => ∃ φ', Rel F φ' H' w' ∧ Ext F φ H w φ' H' w' ∧ RV (cx F φ' H' w') v u) ((execOp a.eval o).run P w) := fun T0 need know v H' h1 h2 F φ w a hB hT => by
      obtain ⟨-, h4⟩ := op_ok hE hB (rho_ok hT) h1 h2
      exact h4.mono fun u w' ⟨φ', hv, hR', hX⟩ => ⟨φ', hR', hX, hv⟩
    have same : ∀ t, lookT T t = lookT T t := fun _ => rfl
    rw [planD] at h
    split at h
    · rename_i hg
      have wanted : ∀ a : Act, Region.wanted o (yielded opsA a.tmps) = true := fun a => by simp [Region.wanted, hg]
      rw [Bool.cond_eq_ite] at h
      split at h
      · rename_i hW
        split at h
        · rename_i need know v H' hr
          obtain ⟨h1, h2⟩ := h
          obtain ⟨T', h5, h6⟩ := putK_cases h2
          rw [forceH_eq] at h5
          refine wr v T T' H' hW same h6 h5 fun F φ w a hB hT => ?_
          unfold Does
          rw [if_pos (wanted a)]
          exact doesW _ _ _ _ _ hr h1 F φ w a hB hT
        · exact h.elim
      · rename_i hW
        obtain ⟨r, v, h1, h2, h3, h4⟩ := preK_get h
        obtain ⟨T', h5, h6⟩ := putK_cases h4
        refine plain v T T' (not_true hW) same h6 h5 fun F φ w a hB hT => ?_
        unfold Does
        rw [if_pos (wanted a)]
        exact preK_does hE h1 h2 h3 hB hT
    · rename_i j want hg
      split at h
      · exact h.elim
      · rename_i d hd
        split at h
        · rename_i b hb1
          rw [Bool.cond_eq_ite] at h
          split at h
          · rename_i hlt
            have hlt : d < N := by rwa [Nat.blt_eq] at hlt
            have hbT : lookT T d = .bool b := by
              rcases maskT_look (ops := opsA.toList) (deps := depsOf o) (T := T) (t := d) m with ⟨h1, -⟩ | h1
              · rw [← h1]; exact hb1
              · rw [h1] at hb1; cases hb1
            have wanted : ∀ (F : Nat → Prop) φ H w a, TRel F φ H w N (maskT opsA.toList (depsOf o) T m) a → Region.wanted o (yielded opsA a.tmps) = (b == want) := fun F φ H w a hT => guard_want (deps := []) (m := 0) hT hg hd hb1 hlt
            have known : ∀ c, b = c → ∀ t, lookT ((d, .bool c) :: T) t = lookT T t := fun c hc t => by
              rw [lookT_cons]
              split
              · rename_i e; rw [e, hbT, hc]
              · rfl
            by_cases e : b = want
            · have h := h.1 e
              rw [Bool.cond_eq_ite] at h
              split at h
              · rename_i hW
                split at h
                · rename_i need know v H' hr
                  obtain ⟨h1, h2⟩ := h
                  obtain ⟨T', h5, h6⟩ := putK_cases h2
                  rw [forceH_eq] at h5
                  refine wr v _ T' H' hW (known want e) h6 h5 fun F φ w a hB hT => ?_
                  unfold Does
                  rw [wanted F φ H w a hT, if_pos (beq_iff_eq.2 e)]
                  exact doesW _ _ _ _ _ hr h1 F φ w a hB (hT.known hb1 e)
                · exact h.elim
              · rename_i hW
                obtain ⟨r, v, h1, h2, h3, h4⟩ := preK_get h
                obtain ⟨T', h5, h6⟩ := putK_cases h4
                refine plain v _ T' (not_true hW) (known want e) h6 h5 fun F φ w a hB hT => ?_
                unfold Does
                rw [wanted F φ H w a hT, if_pos (beq_iff_eq.2 e)]
                exact preK_does hE h1 h2 h3 hB (hT.known hb1 e)
            · have e' : b = !want := ne_not e
              obtain ⟨T', h5, h6⟩ := putK_cases (h.2 e')
              rw [Bool.cond_eq_ite] at h5
              split at h5
              · rename_i hW
                refine wr (.tup []) _ T' H hW (known (!want) e') h6 h5 fun F φ w a hB hT => ?_
                unfold Does
                rw [wanted F φ H w a hT, if_neg (fun h => e (beq_iff_eq.1 h))]
                exact ⟨φ, hB, Ext.refl _ _ _ _, rv_skip⟩
              · rename_i hW
                refine plain (.tup []) _ T' (not_true hW) (known (!want) e') h6 h5 fun F φ w a hB hT => ?_
                unfold Does
                rw [wanted F φ H w a hT, if_neg (fun h => e (beq_iff_eq.1 h))]
                exact ⟨rv_skip, Below.refl _ _⟩
          · exact h.elim
        · rename_i hb1
          have skip : ∀ (F : Nat → Prop) φ H w a, TRel F φ H w N (maskT opsA.toList (depsOf o) T m) a → Region.wanted o (yielded opsA a.tmps) = false := fun F φ H w a hT => guard_skip hT hg hd hb1
          obtain ⟨T', h5, h6⟩ := putK_cases h
          rw [Bool.cond_eq_ite] at h5
          split at h5
          · rename_i hW
            refine wr (.tup []) _ T' H hW same h6 h5 fun F φ w a hB hT => ?_
            unfold Does
            rw [skip F φ H w a hT, if_neg (by decide)]
            exact ⟨φ, hB, Ext.refl _ _ _ _, rv_skip⟩
          · rename_i hW
            refine plain (.tup []) _ T' (not_true hW) same h6 h5 fun F φ w a hB hT => ?_
            unfold Does
            rw [skip F φ H w a hT, if_neg (by decide)]
            exact ⟨rv_skip, Below.refl _ _⟩
        · exact h.elim
theorem chk_ok (hE : E.Ok P) {opsA : Array Oper} {m : Nat} {o : Oper} {Tf : Tmps} {Hj : Heap} (h : chk1 E N o opsA.toList m Tf Hj) : Fact P opsA m N Tf Hj o := by
  intro F φ w a hB hT
  have run : chkV E o opsA.toList m Tf Hj → Give P (fun u w' => RV (cx F φ Hj w') (valOf o Tf) u ∧ Below w.heap.size w w') ((execOp a.eval o).run P w) := fun h => by
    unfold chkV at h
    split at h
    · rename_i need know v0 H' hr
      obtain ⟨h1, h2⟩ := h
      split at h2
      · rename_i v hv
        exact (preK_does hE hr h1 hv hB hT).mono fun u w' ⟨p1, p2⟩ => ⟨sameV_ok h2 p1, p2⟩
      · exact h2.elim
    · exact h.elim
  unfold chk1 at h
  unfold Does
  split at h
  · rename_i hg
    rw [if_pos (by simp [Region.wanted, hg])]
    exact run h
  · rename_i j want hg
    split at h
    · exact h.elim
    · rename_i d hd
      split at h
      · rename_i c hc
        rw [Bool.cond_eq_ite] at h
        split at h
        case isFalse => exact h.elim
        rename_i hlt
        rw [guard_want (deps := []) (m := 0) hT hg hd hc (by rwa [Nat.blt_eq] at hlt)]
        rw [Bool.cond_eq_ite] at h
        by_cases e : c = want
        · rw [if_pos (by simpa using e)]
          rw [if_pos (by rw [e]; cases want <;> rfl)] at h
          exact run h
        · rw [if_neg (by simpa using e)]
          rw [if_neg (by cases c <;> cases want <;> simp_all [eqBb])] at h
          exact ⟨sameV_ok h rv_skip, Below.refl _ _⟩
      · rename_i hc
        rw [guard_skip hT hg hd hc, if_neg (by decide)]
        exact ⟨sameV_ok h rv_skip, Below.refl _ _⟩
      · exact h.elim
theorem checkD_get {ops : List Oper} {m : Nat} {Hs : List Heap} {i j : Nat} {o : Oper} : ∀ {Z : List (Nat × Nat)}, checkD E N ops m T Hs Z → (i, j) ∈ Z → ops[i]? = some o → ∃ Hj, stAt Hs j = some Hj ∧ chk1 E N o ops m T Hj
  | (x, y) :: Z, h, hm, ho => by
    obtain ⟨h1, h2⟩ := h
    rcases List.mem_cons.1 hm with e | hm
    · injection e with e1 e2
      subst e1 e2
      rw [ho] at h1
      simp only at h1
      split at h1
      · rename_i Hj hj; exact ⟨Hj, hj, h1⟩
      · exact h1.elim
    · exact checkD_get h2 hm ho
set_option maxHeartbeats 1000000 in
theorem drawE_ok (hE : E.Ok P) (hmix : P.follows .mixedOrders = true) {ops : Array Oper} {id m : Nat} {W : List Nat} {Z : List (Nat × Nat)} {Q : Exit → Act → World → Prop} {K : Tmps → Heap → Prop} (h : drawE E N ops.toList m W Z T H K) (hB : Base F φ0 H0 w0 φ H w) (hT : TRel F φ H w N T a)
    (hQ : ∀ T' H' φ' w' a', K T' H' → Base F φ0 H0 w0 φ' H' w' → TRel F φ' H' w' N T' a' → Q .normal a' w') : (Code.region id ops true).wp P Q a w := by
  obtain ⟨hfree, hwr, h⟩ := h
  simp only [Array.toArray_toList] at hfree hwr
  have hF := freeOk_spec hfree
  have hle := hF.le
  have hget : ∀ i : Nat, ops.toList[i]? = ops[i]? := fun i => by rw [Array.getElem?_toList]
  have dstA : ∀ i, dstOf ops.toList i = dstAt ops i := fun i => by
    unfold dstOf dstAt
    rw [Array.getElem?_toList]
    cases ops[i]? <;> rfl
  obtain ⟨Tf, Hf, Hsf, ⟨hc, hreg⟩, agree, hlen, hst, hplain, hwrite⟩ := plan_ok (P := P) (N := N) (opsA := ops) (m := m) (W := W) hE (ops.toList.take m) 0 T H [] (by simp; omega) (fun j o hj => by
      rw [List.getElem?_take] at hj
      split at hj
      · rw [Nat.zero_add]; exact hj
      · cases hj) (fun i j t hi hj h1 h2 => hF.uniq i j t hi hj (by rw [← dstA]; exact h1) (by rw [← dstA]; exact h2)) (fun i o hi ho d hd => hF.back i o (by rw [← hget]; exact ho) d hd) rfl h
  unfold wrOk at hwr
  simp only [Bool.and_eq_true, List.all_eq_true, List.mem_range, Bool.or_eq_true, Bool.not_eq_true'] at hwr
  obtain ⟨⟨hdst, hchain⟩, hcov⟩ := hwr
  have hdN : ∀ i t, i < m → dstOf ops.toList i = some t → t < N := fun i t hi h => by
    have := hdst i hi
    rw [dstA] at h
    rw [h] at this
    rwa [Nat.blt_eq] at this
  -- an operation that doesn't write, wherever it may run
  have fact : ∀ i o j, i < m → ops[i]? = some o → memN i W = false → j ≤ cntW W m → (∀ e, e < m → memN e W = true → (cntW W e < j → reach ops 6 e i = false) ∧ (¬ cntW W e < j → reach ops 6 i e = false)) → ∀ Hj, stAt (Hf :: Hsf) j = some Hj → Fact P ops m N Tf Hj o := fun i o j hi ho hW hj hp Hj hHj => by
    rcases hcov i hi with h1 | h1
    · rw [hW] at h1; cases h1
    · rcases h1 j (by omega) with (h2 | h2) | h2
      · have := Nat.eq_of_beq_eq_true h2
        subst this
        obtain ⟨Hj', g1, g2⟩ := hplain i o (Nat.zero_le _) hi (by rw [hget]; exact ho) hW
        rw [hHj] at g1
        injection g1 with g1
        subst g1
        exact g2
      · exfalso
        have : possB ops m W i j = true := by
          unfold possB
          simp only [List.all_eq_true, List.mem_range, Bool.or_eq_true, Bool.not_eq_true']
          intro e he
          cases hw : memN e W with
          | false => exact .inl rfl
          | true =>
            right
            obtain ⟨p1, p2⟩ := hp e he hw
            rw [Bool.cond_eq_ite]
            split
            · rename_i hlt; rw [p1 (by rwa [Nat.blt_eq] at hlt)]; rfl
            · rename_i hlt; rw [p2 (by rwa [Nat.blt_eq] at hlt)]; rfl
        rw [this] at h2
        cases h2
      · obtain ⟨Hj', g1, g2⟩ := checkD_get hc (memP_iff h2) (by rw [hget]; exact ho)
        rw [hHj] at g1
        injection g1 with g1
        subst g1
        exact chk_ok hE g2
  obtain ⟨hd0, hs0⟩ := hB.rel.below (Below.drew (Below.refl w.heap.size w))
  let J : (Nat → Prop) → (Nat → Value) → World → Prop := fun L vs x => (∀ i o, i < m → ops[i]? = some o → L i → ∀ k ∈ depsOf o, L k) ∧ ∃ j φ' Hj, j ≤ cntW W m ∧ (∀ e, e < m → memN e W = true → (L e ↔ cntW W e < j)) ∧ stAt (Hf :: Hsf) j = some Hj ∧ Base F φ0 H0 w0 φ' Hj x ∧ Ext F φ H w φ' Hj x ∧
    ∀ i o, i < m → ops[i]? = some o → L i → RV (cx F φ' Hj x) (valOf o Tf) (vs i)
  -- the temporaries, as far as an operation may look at them
  have temps : ∀ (L : Nat → Prop) vs φ' Hj x k deps, k ≤ m → Ext F φ H w φ' Hj x → (∀ d ∈ deps, d < k ∧ L d) → (∀ i o, i < m → ops[i]? = some o → L i → RV (cx F φ' Hj x) (valOf o Tf) (vs i)) → TRel F φ' Hj x N (maskT ops.toList deps Tf m) (actAt ops a vs k) := fun L vs φ' Hj x k deps hk hX hd hv => by
    have hA := Inv.at_ (a := a) (vs := vs) hF k hk
    refine ⟨by rw [hA.size, hT.size], fun t => ?_, by rw [hA.defers, hT.defers]⟩
    rcases maskT_iff (ops := ops.toList) (deps := deps) (T := Tf) (t := t) m with ⟨h1, h2⟩ | ⟨-, h2⟩
    · rw [h2]
      by_cases hx : ∃ i, i < m ∧ dstOf ops.toList i = some t
      · obtain ⟨i, hi, hit⟩ := hx
        obtain ⟨hik, hLi⟩ := hd i (h1 i hi hit)
        have ho : ops[i]? = some ops[i] := Array.getElem?_eq_getElem (by omega)
        have hdst : (ops[i]).dst = some t := by
          have := hit
          rw [dstA, dstAt, ho] at this
          exact this
        have hval := hv i _ hi ho hLi
        rw [show valOf ops[i] Tf = lookT Tf t from by simp only [valOf, hdst]] at hval
        by_cases hts : t < a.tmps.size
        · have := hA.told i t hi hik (by rw [← dstA]; exact hit) hts
          rw [Array.getD_eq_getD_getElem?, this]
          exact hval
        · have : lookT Tf t = .undef ∨ True := .inr trivial
          have hn : (actAt ops a vs k).tmps[t]? = none := by
            rw [Array.getElem?_eq_none]
            rw [hA.size]; omega
          exact absurd (hdN i t hi hit) (by rw [hT.size] at hts; exact hts)
      · have ht : ∀ i, i < m → dstOf ops.toList i ≠ some t := fun i hi he => hx ⟨i, hi, he⟩
        rw [agree t fun i _ hi => ht i hi]
        have := hA.kept t fun i hi _ => by rw [← dstA]; exact ht i hi
        rw [Array.getD_eq_getD_getElem?, this, ← Array.getD_eq_getD_getElem?]
        exact (hT.get t).mono hX.le
    · rw [h2]; trivial
  have clos : ∀ (L : Nat → Prop) i o, (∀ i o, i < m → ops[i]? = some o → L i → ∀ k ∈ depsOf o, L k) → i < m → ops[i]? = some o → (∀ k ∈ depsOf o, L k) → ∀ f k, reach ops f i k = true → L k := fun L i o hcl hi ho hdL f k hr => by
    refine (reach_spec (L := fun k => L k ∧ k < m) (fun j o' hj' hL d hd => ⟨hcl j o' hL.2 hj' hL.1 d hd, by have := hF.back j o' hj' d hd; have := hL.2; omega⟩) f i k hr fun d hd => ?_).1
    rw [Array.getD_eq_getD_getElem?, ho] at hd
    exact ⟨hdL d hd, by have := hF.back i o ho d hd; omega⟩
  refine wp_region_ghost hmix m hfree (J := J) (fun L L' vs us x hL hu ⟨j1, j, φ', Hj, j2, j3, j4, j5, j6, j7⟩ => ?_) ?_ (fun i o L vs x hi ho hnL hdL ⟨j1, j, φ', Hj, j2, j3, j4, j5, j6, j7⟩ => ?_) (fun vs x ⟨j1, j, φ', Hj, j2, j3, j4, j5, j6, j7⟩ => ?_)
  · refine ⟨fun i o hi ho hLi k hk => ?_, j, φ', Hj, j2, fun e he hw => by rw [← hL e he]; exact j3 e he hw, j4, j5, j6, fun i o hi ho hLi => ?_⟩
    · have := hF.back i o ho k hk
      exact (hL k (by omega)).1 (j1 i o hi ho ((hL i hi).2 hLi) k hk)
    · rw [hu i hi ((hL i hi).2 hLi)]
      exact j7 i o hi ho ((hL i hi).2 hLi)
  · refine ⟨fun i o hi ho hL => hL.elim, 0, φ, H, Nat.zero_le _, fun e he hw => ⟨fun h => h.elim, fun h => absurd h (Nat.not_lt_zero _)⟩, by rw [hst 0 (Nat.le_refl _)]; rfl, ⟨hd0, hB.ext.trans hs0, hB.lt0⟩, hs0, fun i o hi ho hL => hL.elim⟩
  · have hTm : TRel F φ' Hj x N (maskT ops.toList (depsOf o) Tf m) (actAt ops a vs i) := temps L vs φ' Hj x i (depsOf o) (by omega) j6 (fun d hd => ⟨hF.back i o ho d hd, hdL d hd⟩) j7
    have close2 : ∀ (i' : Nat) (o' : Oper), i' < m → ops[i']? = some o' → (L i' ∨ i' = i) → ∀ k ∈ depsOf o', L k ∨ k = i := fun i' o' hi' ho' hL k hk => by
      rcases hL with hL | rfl
      · exact .inl (j1 i' o' hi' ho' hL k hk)
      · rw [ho] at ho'
        injection ho' with ho'
        subst ho'
        exact .inl (hdL k hk)
    cases hW : memN i W with
    | false =>
      refine (fact i o j hi ho hW j2 (fun e he hw => ⟨fun hlt => ?_, fun hlt => ?_⟩) Hj j4 F φ' x _ j5.rel hTm).mono fun u x' ⟨p1, p2⟩ => ?_
      · cases hr : reach ops 6 e i with
        | false => rfl
        | true =>
          have hLe := (j3 e he hw).2 hlt
          have hoe : ops[e]? = some ops[e] := Array.getElem?_eq_getElem (by omega)
          exact absurd (clos L e _ j1 he hoe (j1 e _ he hoe hLe) 6 i hr) hnL
      · cases hr : reach ops 6 i e with
        | false => rfl
        | true => exact absurd ((j3 e he hw).1 (clos L i o j1 hi ho hdL 6 e hr)) hlt
      · obtain ⟨g1, g2⟩ := j5.rel.below p2
        refine ⟨close2, j, φ', Hj, j2, fun e he hw => ?_, j4, ⟨g1, j5.ext.trans g2, j5.lt0⟩, j6.trans g2, fun i' o' hi' ho' hL => ?_⟩
        · rw [← j3 e he hw]
          refine ⟨fun h => ?_, Or.inl⟩
          rcases h with h | rfl
          · exact h
          · rw [hW] at hw; cases hw
        · by_cases e : i' = i
          · subst e
            rw [ho] at ho'
            injection ho' with ho'
            subst ho'
            show RV _ _ (if i' = i' then u else vs i')
            rw [if_pos rfl]
            exact p1
          · show RV _ _ (if i' = i then u else vs i')
            rw [if_neg e]
            exact (j7 i' o' hi' ho' (hL.resolve_right e)).mono g2.le
    | true =>
      have hge : ¬ cntW W i < j := fun h => hnL ((j3 i hi hW).2 h)
      have hj : j = cntW W i := by
        rcases Nat.lt_or_ge j (cntW W i) with h | h
        · obtain ⟨f, f1, f2, f3⟩ := cntW_hit i h
          have hch := hchain i hi
          rcases hch with h' | h'
          · rw [hW] at h'; cases h'
          · rcases h' f f1 with h'' | h''
            · rw [f2] at h''; cases h''
            · have := (j3 f (by omega) f2).1 (clos L i o j1 hi ho hdL 6 f h'')
              omega
        · omega
      subst hj
      obtain ⟨Ha, Hb, g1, g2, g3⟩ := hwrite i o (Nat.zero_le _) hi (by rw [hget]; exact ho) hW
      rw [j4] at g1
      injection g1 with g1
      subst g1
      have hlt := cntW_lt hi hW
      refine (g3 F φ' x _ j5.rel hTm).mono fun u x' ⟨φ2, p1, p2, p3⟩ => ⟨close2, cntW W i + 1, φ2, Hb, by omega, fun e he hw => ?_, g2, ⟨p1, j5.ext.trans p2, j5.lt0⟩, j6.trans p2, fun i' o' hi' ho' hL => ?_⟩
      · constructor
        · rintro (h | rfl)
          · have := (j3 e he hw).1 h; omega
          · omega
        · intro h
          by_cases h' : cntW W e < cntW W i
          · exact .inl ((j3 e he hw).2 h')
          · right
            rcases Nat.lt_trichotomy e i with h1 | h1 | h1
            · have := cntW_lt h1 hw; omega
            · exact h1
            · have := cntW_lt h1 hW; omega
      · by_cases e : i' = i
        · subst e
          rw [ho] at ho'
          injection ho' with ho'
          subst ho'
          show RV _ _ (if i' = i' then u else vs i')
          rw [if_pos rfl]
          exact p3
        · show RV _ _ (if i' = i then u else vs i')
          rw [if_neg e]
          exact (j7 i' o' hi' ho' (hL.resolve_right e)).mono p2.le
  · have hj : j = cntW W m := by
      rcases Nat.lt_or_ge j (cntW W m) with h | h
      · obtain ⟨f, f1, f2, f3⟩ := cntW_hit m h
        have := (j3 f f1 f2).1 f1
        omega
      · omega
    subst hj
    have hHj : Hj = Hf := by
      rw [stAt, hlen, Nat.beq_refl] at j4
      injection j4 with j4
      exact j4.symm
    subst hHj
    have hTm : TRel F φ' Hj x N Tf (actAt ops a vs m) := by
      have := temps (fun i => i < m) vs φ' Hj x m (List.range m) (Nat.le_refl _) j6 (fun d hd => ⟨List.mem_range.1 hd, List.mem_range.1 hd⟩) j7
      refine ⟨this.size, fun t => ?_, this.defers⟩
      have h1 := this.get t
      rcases maskT_iff (ops := ops.toList) (deps := List.range m) (T := Tf) (t := t) m with ⟨-, h2⟩ | ⟨h2, -⟩
      · rw [← h2]; exact h1
      · exact absurd (fun i hi _ => List.mem_range.2 hi) h2
    exact reg_ok hE (ops.toList.drop m) Tf Hj φ' x _ K hreg j5 hTm hQ
end
end Go.Proofs.YtpkidbhpfohopaaDoor

noncomputable section
namespace Go.Proofs.YtpkidbhpfohopaaDoor
open Go.RowKit
set_option linter.unusedVariables false
set_option linter.unusedSimpArgs false
/-- What stays, as far as values tell it. -/
structure Cx.Mo (C C' : Cx) : Prop where
  φ : ∀ id, id < C.n → C'.φ id = C.φ id
  n : C.n ≤ C'.n
  mt : ∀ b, b < C.w.heap.size → ¬ C.mt b → ¬ C'.mt b
  size : C.w.heap.size ≤ C'.w.heap.size
  blk : ∀ b, b < C.w.heap.size → ¬ C.mt b → C'.w.heap[b]? = C.w.heap[b]?
theorem Reps.mo {C C' : Cx} {as : List AV} {vs : List Value} (hle : C.Mo C') (h : Reps C as vs) : Reps C' as vs := by
  induction h with
  | nil => exact .nil
  | int a b h ih => exact .int a b ih
  | bool h ih => exact .bool ih
  | str a h ih => exact .str a ih
  | nilp h ih => exact .nilp ih
  | ptr a h ih => rw [← hle.φ _ a]; exact .ptr (Nat.lt_of_lt_of_le a hle.n) ih
  | nils h ih => exact .nils ih
  | slc a h ih => rw [← hle.φ _ a]; exact .slc (Nat.lt_of_lt_of_le a hle.n) ih
  | nilm h ih => exact .nilm ih
  | ifz h ih => exact .ifz ih
  | ifn h ih => exact .ifn ih
  | hdl a h ih => rw [← hle.φ _ a]; exact .hdl (Nat.lt_of_lt_of_le a hle.n) ih
  | vsl ws a b c d h ih1 ih2 =>
    refine .vsl ws a b (fun h0 => ?_) ih1 ih2
    obtain ⟨bb, off, hA, hm, hlt, hc⟩ := c h0
    exact ⟨bb, off, hA, hle.mt _ hlt hm, Nat.lt_of_lt_of_le hlt hle.size, fun i hi j v hv => (World.cell?_of_block (w := C.w) (a := ⟨bb, _, none⟩) (hle.blk bb hlt hm)).trans (hc i hi j v hv)⟩
  | arr a b h ih1 ih2 => exact .arr ih1 b ih2
  | fn h ih => exact .fn ih
  | vptr ws a b c d h ih1 ih2 => exact .vptr ws ih1 (hle.mt _ c b) (Nat.lt_of_lt_of_le c hle.size) (fun j v hv => (World.cell?_of_block (w := C.w) (a := ⟨_, _, none⟩) (hle.blk _ c b)).trans (d j v hv)) ih2
theorem RV1.mo {C C' : Cx} (hle : C.Mo C') {a : AV} {v : Value} (h : RV1 C a v) : RV1 C' a v := by
  cases a <;> simp only [RV1] at h ⊢ <;> first | trivial | exact h.mo hle | (obtain ⟨vs, e, hr⟩ := h; exact ⟨vs, e, hr.mo hle⟩)
theorem RVs.mo {C C' : Cx} (hle : C.Mo C') : ∀ {as : List AV} {vs : List Value}, RVs C as vs → RVs C' as vs
  | [], [], _ => trivial
  | a :: as, v :: vs, h => ⟨h.1.mo hle, RVs.mo hle h.2⟩
  | [], _ :: _, h => h.elim
  | _ :: _, [], h => h.elim
theorem RV.mo {C C' : Cx} (hle : C.Mo C') {a : AV} {v : Value} (h : RV C a v) : RV C' a v := by
  cases a with
  | tup l => obtain ⟨vs, e, hr⟩ := h; exact ⟨vs, e, hr.mo hle⟩
  | _ => simp only [RV] at h ⊢; exact RV1.mo hle h
theorem BRel.mo {C C' : Cx} {r : RS} {k : Blk} (hle : C.Mo C') (hw : C'.w = C.w) (h : BRel C r k) : BRel C' r k := by
  cases k with
  | objT ro ty cs =>
    obtain ⟨hn, vs, e, h1, h2⟩ := h
    exact ⟨hn, vs, e, by rw [hw]; exact h1, h2.mo hle⟩
  | seq ro e t xs =>
    obtain ⟨h1, h2, us, h3, h4⟩ := h
    exact ⟨h1, h2, us, h3.mo hle, by rw [hw]; exact h4⟩
  | map ro t es =>
    obtain ⟨hn, vs, h1, h2⟩ := h
    refine ⟨hn, vs, h1.imp fun e v h => ⟨h.key, h.wf, ?_⟩, by rw [hw]; exact h2⟩
    have h4 := h.val
    unfold RX at h4 ⊢
    by_cases ha : t.agg = true
    · rw [if_pos ha] at h4 ⊢
      obtain ⟨us, e1, h5⟩ := h4
      exact ⟨us, e1, h5.mo hle⟩
    · rw [if_neg ha] at h4 ⊢
      exact h4.mo hle
def addF (F : Nat → Prop) (b : Nat) : Nat → Prop := fun x => F x ∨ x = b
section
variable {P : Program} {E : Env} {F G : Nat → Prop} {φ φ' φ0 : Nat → RS} {H H' H0 : Heap} {w w' w0 x y : World} {N : Nat} {T : Tmps} {a : Act}
/-- What is foreign may be another one, as far as it was not there at first. -/
theorem ext_turn (hG : ∀ b, b < w.heap.size → (G b ↔ F b)) (hF : ∀ b, b < w.heap.size → (F b → G b)) (h : Ext F φ H w φ' H' w') : Ext G φ H w φ' H' w' := by
  refine ⟨⟨h.le.φ, h.le.n, fun b hb hm hm' => ?_, h.le.size, h.le.blk, h.le.wr⟩, h.ro, h.os, h.tape, h.output⟩
  have h1 : ¬ (Mut φ H b ∨ F b) := fun hh => hm (hh.elim .inl fun hh => .inr ((hG b hb).2 hh))
  have h2 : ¬ (Mut φ' H' b ∨ F b) := h.le.mt b hb h1
  exact h2 (hm'.elim .inl fun hh => .inr ((hG b hb).1 hh))
theorem below_ext (hb : Below w.heap.size w w') : Ext G φ H w φ H w' := ⟨below_le hb, fun _ _ h _ => h, hb.os, hb.tape, hb.output⟩
theorem cx_turn (hG : ∀ b, b < w.heap.size → (G b → F b)) : (cx F φ H w).Le (cx G φ H w) :=
  ⟨fun _ _ => rfl, Nat.le_refl _, fun b hb hm hm' => hm (hm'.elim .inl fun hh => .inr (hG b hb hh)), Nat.le_refl _, fun _ _ _ => rfl, fun _ _ h => h⟩
/-- A block is made, and nobody knows it yet. -/
theorem rel_enter (h : Rel F φ H x) (hb : Below x.heap.size x y) (hs : x.heap.size < y.heap.size) : Rel (addF F x.heap.size) φ H y ∧ (cx F φ H x).Le (cx (addF F x.heap.size) φ H y) := by
  have le : (cx F φ H x).Le (cx (addF F x.heap.size) φ H y) :=
    ⟨fun _ _ => rfl, Nat.le_refl _, fun b hbx hm hm' => hm (hm'.elim .inl fun hh => hh.elim .inr fun e => absurd e (Nat.ne_of_lt hbx)), hb.size, fun b hbx _ => hb.block b hbx, fun _ _ h => h⟩
  refine ⟨⟨(h.st.keep fun b hb' => hb.block b (h.flt b hb')).mono fun b hb' => .inl hb', h.lt, fun id k hg => (h.blk id k hg).mono le fun hn => hb.block _ ((h.blk id k hg).lt hn), h.inj, fun id k hg hn hf => ?_, fun b hf => ?_⟩, le⟩
  · rcases hf with hf | e
    · exact h.forb id k hg hn hf
    · have := (h.blk id k hg).lt hn
      have h2 : (φ id).blk < x.heap.size := this
      rw [e] at h2
      exact absurd h2 (Nat.lt_irrefl _)
  · rcases hf with hf | e
    · exact Nat.lt_of_lt_of_le (h.flt b hf) hb.size
    · rw [e]; exact hs
/-- It gets its number. -/
theorem rel_leave {b : Nat} (hst : SeatSt F x) (h : Rel (addF F b) φ H x) (hFb : ¬ F b) {cs : List AV} {vs : Array Value} {t : TypeId} (hblk : x.heap[b]? = some (.cells vs t (0, 0))) (hr : ∀ C, Reps C cs vs.toList) :
    Rel F (upd φ H.n ⟨b, 0, 0, false⟩) (H.new (.obj false cs)) x ∧ (cx (addF F b) φ H x).Mo (cx F (upd φ H.n ⟨b, 0, 0, false⟩) (H.new (.obj false cs)) x) ∧ (∀ b', b' ≠ b → Mut (upd φ H.n ⟨b, 0, 0, false⟩) (H.new (.obj false cs)) b' → Mut φ H b') ∧ (∀ b', b' ≠ b → Wr (upd φ H.n ⟨b, 0, 0, false⟩) (H.new (.obj false cs)) b' → Wr φ H b') := by
  have key : ∀ id k', (H.new (.obj false cs)).get id = some k' → (id = H.n ∧ k' = .obj false cs) ∨ (id ≠ H.n ∧ H.get id = some k') := fun id k' hg => by
    by_cases e : id = H.n
    · subst e
      rw [Heap.get_new_same] at hg
      injection hg with hg
      exact .inl ⟨rfl, hg.symm⟩
    · rw [Heap.get_new_ne _ _ e] at hg
      exact .inr ⟨e, hg⟩
  have hmut : ∀ b', b' ≠ b → Mut (upd φ H.n ⟨b, 0, 0, false⟩) (H.new (.obj false cs)) b' → Mut φ H b' := fun b' hb' ⟨id, k, hg, hn, he⟩ => by
    rcases key id k hg with ⟨rfl, -⟩ | ⟨hne, hg'⟩
    · rw [upd_same] at he
      exact absurd he.symm hb'
    · rw [upd_ne _ _ hne] at hn he
      exact ⟨id, k, hg', hn, he⟩
  have hwr : ∀ b', b' ≠ b → Wr (upd φ H.n ⟨b, 0, 0, false⟩) (H.new (.obj false cs)) b' → Wr φ H b' := fun b' hb' ⟨id, k, hg, hro, hn, he⟩ => by
    rcases key id k hg with ⟨rfl, -⟩ | ⟨hne, hg'⟩
    · rw [upd_same] at he
      exact absurd he.symm hb'
    · rw [upd_ne _ _ hne] at hn he
      exact ⟨id, k, hg', hro, hn, he⟩
  have mo : (cx (addF F b) φ H x).Mo (cx F (upd φ H.n ⟨b, 0, 0, false⟩) (H.new (.obj false cs)) x) := by
    refine ⟨fun id hi => upd_ne _ _ (Nat.ne_of_lt hi), Nat.le_succ _, fun b' hb' hm hm' => ?_, Nat.le_refl _, fun _ _ _ => rfl⟩
    have hne : b' ≠ b := fun e => hm (.inr (.inr e))
    exact hm (hm'.elim (fun hh => .inl (hmut b' hne hh)) fun hh => .inr (.inl hh))
  refine ⟨⟨hst, fun id k hg => ?_, fun id k hg => ?_, fun id id' k k' hg hg' hn hn' he => ?_, fun id k hg hn => ?_, fun b' hf => h.flt b' (.inl hf)⟩, mo, hmut, hwr⟩
  · rcases key id k hg with ⟨rfl, -⟩ | ⟨-, hg⟩
    · exact Nat.lt_succ_self _
    · exact Nat.lt_succ_of_lt (h.lt _ _ hg)
  · rcases key id k hg with ⟨rfl, rfl⟩ | ⟨hne, hg'⟩
    · rw [upd_same]
      exact ⟨rfl, vs, t, hblk, hr _⟩
    · rw [upd_ne _ _ hne]
      exact (h.blk id k hg').mo mo rfl
  · rcases key id k hg with ⟨rfl, -⟩ | ⟨hne, h1⟩ <;> rcases key id' k' hg' with ⟨rfl, -⟩ | ⟨hne', h2⟩
    · rfl
    · rw [upd_same, upd_ne _ _ hne'] at he
      rw [upd_ne _ _ hne'] at hn'
      exact absurd (.inr he.symm) (h.forb id' k' h2 hn')
    · rw [upd_same, upd_ne _ _ hne] at he
      rw [upd_ne _ _ hne] at hn
      exact absurd (.inr he) (h.forb id k h1 hn)
    · rw [upd_ne _ _ hne] at hn he
      rw [upd_ne _ _ hne'] at hn' he
      exact h.inj id id' k k' h1 h2 hn hn' he
  · rcases key id k hg with ⟨rfl, -⟩ | ⟨hne, hg'⟩
    · rw [upd_same]; exact hFb
    · rw [upd_ne _ _ hne] at hn ⊢
      exact fun hf => h.forb id k hg' hn (.inl hf)
theorem ext_leave {b : Nat} (h : Ext (addF F b) φ0 H0 w0 φ H x) (hb : w0.heap.size ≤ b) (hlt : ∀ id k, H.get id = some k → id < H.n) {cs : List AV} (hmut : ∀ b', b' ≠ b → Mut (upd φ H.n ⟨b, 0, 0, false⟩) (H.new (.obj false cs)) b' → Mut φ H b') (hwr : ∀ b', b' ≠ b → Wr (upd φ H.n ⟨b, 0, 0, false⟩) (H.new (.obj false cs)) b' → Wr φ H b') :
    Ext F φ0 H0 w0 (upd φ H.n ⟨b, 0, 0, false⟩) (H.new (.obj false cs)) x := by
  have ne : ∀ b', b' < w0.heap.size → b' ≠ b := fun b' h e => by omega
  refine ⟨⟨fun id hi => (upd_ne _ _ (Nat.ne_of_lt (Nat.lt_of_lt_of_le hi h.le.n))).trans (h.le.φ id hi), Nat.le_trans h.le.n (Nat.le_succ _), fun b' hb' hm hm' => ?_, h.le.size, h.le.blk, fun b' hb' hm hm' => h.le.wr b' hb' hm (hwr b' (ne b' hb') hm')⟩, fun id k hg hro => ?_, h.os, h.tape, h.output⟩
  · have h1 : ¬ (Mut φ0 H0 b' ∨ addF F b b') := fun hh => hm (hh.elim .inl fun hh => hh.elim .inr fun e => absurd e (ne b' hb'))
    have h2 : ¬ (Mut φ H b' ∨ addF F b b') := h.le.mt b' hb' h1
    exact h2 (hm'.elim (fun hh => .inl (hmut b' (ne b' hb') hh)) fun hh => .inr (.inl hh))
  · have h1 := h.ro id k hg hro
    rw [Heap.get_new_ne _ _ (Nat.ne_of_lt (hlt id k h1))]
    exact h1
/-! ### the rule -/
def wrOkA (N : Nat) (ops : Array Oper) (m : Nat) (W : List Nat) (Z : List (Nat × Nat)) (q : Nat) : Bool :=
  ((List.range m).all fun i => match dstAt ops i with | none => true | some d => Nat.blt d N) &&
  ((List.range m).all fun e => !memN e W || Nat.beq e q || (List.range e).all fun f => !memN f W || reach ops 6 e f) &&
  ((List.range m).all fun i => memN i W || (List.range (cntW W m + 1)).all fun j => Nat.beq j (cntW W i) || !possB ops m W i j || memP i j Z) &&
  (memN q W && Nat.blt q m && ((List.range m).all fun i => !reach ops 6 i q || (List.range q).all fun f => !memN f W || reach ops 6 i f))
/-- What has been made is new, and zero. -/
def allocD (E : Env) (ops : List Oper) (T : Tmps) (Hs : List Heap) (c q : Nat) : Prop :=
  match ops[q]? with
  | some o => match o.guard with
    | none => match o.op with
      | .alloc t => match E.T t with
        | some i => match stAt Hs c with
          | some Hc => match stAt Hs (c + 1) with
            | some Hk => Hk = Hc.new (.obj false i.zero) ∧ valOf o T = .ptr Hc.n ⟨0, 0, 0, none⟩
            | none => False
          | none => False
        | none => False
      | _ => False
    | some _ => False
  | none => False
def drawA (E : Env) (N : Nat) (ops : List Oper) (m : Nat) (W : List Nat) (Z : List (Nat × Nat)) (q : Nat) (T : Tmps) (H : Heap) (K : Tmps → Heap → Prop) : Prop :=
  freeOk ops.toArray m = true ∧ wrOkA N ops.toArray m W Z q = true ∧ planD E N ops m W (ops.take m) 0 T H [] fun T' H' Hs => checkD E N ops m T' (H' :: Hs) Z ∧ allocD E ops T' (H' :: Hs) (cntW W q) q ∧ regD E N ops (ops.drop m) T' H' K
theorem cntW_inj {W : List Nat} {e q : Nat} (he : memN e W = true) (hq : memN q W = true) (h : cntW W e = cntW W q) : e = q := by
  rcases Nat.lt_trichotomy e q with h1 | h1 | h1
  · have := cntW_lt h1 he; omega
  · exact h1
  · have := cntW_lt h1 hq; omega
theorem reach_dep {ops : Array Oper} {i k : Nat} {o : Oper} (ho : ops[i]? = some o) (h : k ∈ depsOf o) : reach ops 6 i k = true := by
  rw [reach, Bool.or_eq_true]
  left
  rw [Array.getD_eq_getD_getElem?, ho]
  exact List.contains_iff_mem.2 h
theorem alloc_run (hE : E.Ok P) {t : TypeId} {i : TI} (hT : E.T t = some i) {o : Oper} (hop : o.op = .alloc t) {G : Value → World → Prop} (hG : ∀ z : Value, (∀ C, Reps C i.zero z.cells.toList) → G (.pointer (some ⟨x.heap.size, 0, none⟩)) (x.alloc (.cells z.cells t))) :
    Give P G ((execOp a.eval o).run P x) := by
  obtain ⟨z, hz, hzr⟩ := (hE.T _ _ hT).zeroV (w := x)
  unfold execOp
  rw [hop]
  refine give_v (v := .pointer (some ⟨x.heap.size, 0, none⟩)) (w' := x.alloc (.cells z.cells t)) ?_ (hG z hzr)
  simp [Instr.alloc, hz, newVar, newRow]
end
end Go.Proofs.YtpkidbhpfohopaaDoor

noncomputable section
namespace Go.Proofs.YtpkidbhpfohopaaDoor
open Go.RowKit
set_option linter.unusedVariables false
set_option linter.unusedSimpArgs false
section
variable {P : Program} {E : Env} {F : Nat → Prop} {φ : Nat → RS} {H : Heap} {w : World} {N : Nat} {T : Tmps} {a : Act} {φ0 : Nat → RS} {H0 : Heap} {w0 : World}
theorem allocD_get {ops : List Oper} {Hs : List Heap} {c q : Nat} (h : allocD E ops T Hs c q) : ∃ o t i Hc, ops[q]? = some o ∧ o.guard = none ∧ o.op = .alloc t ∧ E.T t = some i ∧ stAt Hs c = some Hc ∧ stAt Hs (c + 1) = some (Hc.new (.obj false i.zero)) ∧ valOf o T = .ptr Hc.n ⟨0, 0, 0, none⟩ := by
  unfold allocD at h
  split at h
  · rename_i o ho
    split at h
    · rename_i hg
      split at h
      · rename_i t hop
        split at h
        · rename_i i hT
          split at h
          · rename_i Hc hc
            split at h
            · rename_i Hk hk
              obtain ⟨h1, h2⟩ := h
              subst h1
              exact ⟨o, t, i, Hc, ho, hg, hop, hT, hc, hk, h2⟩
            · exact h.elim
          · exact h.elim
        · exact h.elim
      · exact h.elim
    · exact h.elim
  · exact h.elim
set_option maxHeartbeats 2000000 in
theorem drawA_ok (hE : E.Ok P) (hmix : P.follows .mixedOrders = true) {ops : Array Oper} {id m : Nat} {W : List Nat} {Z : List (Nat × Nat)} {q : Nat} {Q : Exit → Act → World → Prop} {K : Tmps → Heap → Prop} (h : drawA E N ops.toList m W Z q T H K) (hB : Base F φ0 H0 w0 φ H w) (hT : TRel F φ H w N T a)
    (hQ : ∀ T' H' φ' w' a', K T' H' → Base F φ0 H0 w0 φ' H' w' → TRel F φ' H' w' N T' a' → Q .normal a' w') : (Code.region id ops true).wp P Q a w := by
  obtain ⟨hfree, hwr, h⟩ := h
  simp only [Array.toArray_toList] at hfree hwr
  have hF := freeOk_spec hfree
  have hle := hF.le
  have hget : ∀ i : Nat, ops.toList[i]? = ops[i]? := fun i => by rw [Array.getElem?_toList]
  have dstA : ∀ i, dstOf ops.toList i = dstAt ops i := fun i => by
    unfold dstOf dstAt
    rw [Array.getElem?_toList]
    cases ops[i]? <;> rfl
  obtain ⟨Tf, Hf, Hsf, ⟨hc, hal, hreg⟩, agree, hlen, hst, hplain, hwrite⟩ := plan_ok (P := P) (N := N) (opsA := ops) (m := m) (W := W) hE (ops.toList.take m) 0 T H [] (by simp; omega) (fun j o hj => by
      rw [List.getElem?_take] at hj
      split at hj
      · rw [Nat.zero_add]; exact hj
      · cases hj) (fun i j t hi hj h1 h2 => hF.uniq i j t hi hj (by rw [← dstA]; exact h1) (by rw [← dstA]; exact h2)) (fun i o hi ho d hd => hF.back i o (by rw [← hget]; exact ho) d hd) rfl h
  obtain ⟨oq, tq, iq, Hc, hoq, hgq, hopq, hTq, hstc, hstk, hvq⟩ := allocD_get hal
  unfold wrOkA at hwr
  simp only [Bool.and_eq_true, List.all_eq_true, List.mem_range, Bool.or_eq_true, Bool.not_eq_true'] at hwr
  obtain ⟨⟨⟨hdst, hchain⟩, hcov⟩, ⟨hqW, hqm⟩, hqd⟩ := hwr
  have hqm : q < m := by rwa [Nat.blt_eq] at hqm
  rw [hget] at hoq
  have hdN : ∀ i t, i < m → dstOf ops.toList i = some t → t < N := fun i t hi h => by
    have := hdst i hi
    rw [dstA] at h
    rw [h] at this
    rwa [Nat.blt_eq] at this
  have hcm : cntW W q + 1 ≤ cntW W m := cntW_lt hqm hqW
  have cne : ∀ e, memN e W = true → e ≠ q → cntW W e ≠ cntW W q := fun e he hne h => hne (cntW_inj he hqW h)
  -- an operation that doesn't write, wherever it may run
  have fact : ∀ i o j, i < m → ops[i]? = some o → memN i W = false → j ≤ cntW W m → (∀ e, e < m → memN e W = true → (cntW W e < j → reach ops 6 e i = false) ∧ (¬ cntW W e < j → reach ops 6 i e = false)) → ∀ Hj, stAt (Hf :: Hsf) j = some Hj → Fact P ops m N Tf Hj o := fun i o j hi ho hW hj hp Hj hHj => by
    rcases hcov i hi with h1 | h1
    · rw [hW] at h1; cases h1
    · rcases h1 j (by omega) with (h2 | h2) | h2
      · have := Nat.eq_of_beq_eq_true h2
        subst this
        obtain ⟨Hj', g1, g2⟩ := hplain i o (Nat.zero_le _) hi (by rw [hget]; exact ho) hW
        rw [hHj] at g1
        injection g1 with g1
        subst g1
        exact g2
      · exfalso
        have : possB ops m W i j = true := by
          unfold possB
          simp only [List.all_eq_true, List.mem_range, Bool.or_eq_true, Bool.not_eq_true']
          intro e he
          cases hw : memN e W with
          | false => exact .inl rfl
          | true =>
            right
            obtain ⟨p1, p2⟩ := hp e he hw
            rw [Bool.cond_eq_ite]
            split
            · rename_i hlt; rw [p1 (by rwa [Nat.blt_eq] at hlt)]; rfl
            · rename_i hlt; rw [p2 (by rwa [Nat.blt_eq] at hlt)]; rfl
        rw [this] at h2
        cases h2
      · obtain ⟨Hj', g1, g2⟩ := checkD_get hc (memP_iff h2) (by rw [hget]; exact ho)
        rw [hHj] at g1
        injection g1 with g1
        subst g1
        exact chk_ok hE g2
  obtain ⟨hd0, hs0⟩ := hB.rel.below (Below.drew (Below.refl w.heap.size w))
  let J : (Nat → Prop) → (Nat → Value) → World → Prop := fun L vs x => (∀ i o, i < m → ops[i]? = some o → L i → ∀ k ∈ depsOf o, L k) ∧ ∃ j φ' Hj G, j ≤ cntW W m ∧ (∀ e, e < m → memN e W = true → e ≠ q → (L e ↔ cntW W e < j)) ∧ stAt (Hf :: Hsf) j = some Hj ∧
    (∀ b, b < w.heap.size → (G b ↔ F b)) ∧ Rel G φ' Hj x ∧ Ext G φ0 H0 w0 φ' Hj x ∧ Ext G φ H w φ' Hj x ∧
    (∀ i o, i < m → ops[i]? = some o → L i → (i ≠ q ∨ cntW W q < j) → RV (cx G φ' Hj x) (valOf o Tf) (vs i)) ∧
    ((G = F ∧ (L q ↔ cntW W q < j)) ∨ ∃ b zs, L q ∧ j < cntW W q ∧ G = addF F b ∧ ¬ F b ∧ w.heap.size ≤ b ∧ vs q = .pointer (some ⟨b, 0, none⟩) ∧ x.heap[b]? = some (.cells zs tq (0, 0)) ∧ ∀ C, Reps C iq.zero zs.toList)
  -- the temporaries, as far as an operation may look at them
  have temps : ∀ (G : Nat → Prop) (L : Nat → Prop) vs φ' Hj x k deps, k ≤ m → (∀ b, b < w.heap.size → (G b ↔ F b)) → Ext G φ H w φ' Hj x → (∀ d ∈ deps, d < k ∧ L d) → (∀ i o, i < m → ops[i]? = some o → i ∈ deps → L i → RV (cx G φ' Hj x) (valOf o Tf) (vs i)) → TRel G φ' Hj x N (maskT ops.toList deps Tf m) (actAt ops a vs k) := fun G L vs φ' Hj x k deps hk hG hX hd hv => by
    have hA := Inv.at_ (a := a) (vs := vs) hF k hk
    refine ⟨by rw [hA.size, hT.size], fun t => ?_, by rw [hA.defers, hT.defers]⟩
    rcases maskT_iff (ops := ops.toList) (deps := deps) (T := Tf) (t := t) m with ⟨h1, h2⟩ | ⟨-, h2⟩
    · rw [h2]
      by_cases hx : ∃ i, i < m ∧ dstOf ops.toList i = some t
      · obtain ⟨i, hi, hit⟩ := hx
        obtain ⟨hik, hLi⟩ := hd i (h1 i hi hit)
        have ho : ops[i]? = some ops[i] := Array.getElem?_eq_getElem (by omega)
        have hdst : (ops[i]).dst = some t := by
          have := hit
          rw [dstA, dstAt, ho] at this
          exact this
        have hval := hv i _ hi ho (h1 i hi hit) hLi
        rw [show valOf ops[i] Tf = lookT Tf t from by simp only [valOf, hdst]] at hval
        by_cases hts : t < a.tmps.size
        · have := hA.told i t hi hik (by rw [← dstA]; exact hit) hts
          rw [Array.getD_eq_getD_getElem?, this]
          exact hval
        · exact absurd (hdN i t hi hit) (by rw [hT.size] at hts; exact hts)
      · have ht : ∀ i, i < m → dstOf ops.toList i ≠ some t := fun i hi he => hx ⟨i, hi, he⟩
        rw [agree t fun i _ hi => ht i hi]
        have := hA.kept t fun i hi _ => by rw [← dstA]; exact ht i hi
        rw [Array.getD_eq_getD_getElem?, this, ← Array.getD_eq_getD_getElem?]
        exact ((hT.get t).mono (cx_turn fun b hb hg => (hG b hb).1 hg)).mono hX.le
    · rw [h2]; trivial
  have clos : ∀ (L : Nat → Prop) i o, (∀ i o, i < m → ops[i]? = some o → L i → ∀ k ∈ depsOf o, L k) → i < m → ops[i]? = some o → (∀ k ∈ depsOf o, L k) → ∀ f k, reach ops f i k = true → L k := fun L i o hcl hi ho hdL f k hr => by
    refine (reach_spec (L := fun k => L k ∧ k < m) (fun j o' hj' hL d hd => ⟨hcl j o' hL.2 hj' hL.1 d hd, by have := hF.back j o' hj' d hd; have := hL.2; omega⟩) f i k hr fun d hd => ?_).1
    rw [Array.getD_eq_getD_getElem?, ho] at hd
    exact ⟨hdL d hd, by have := hF.back i o ho d hd; omega⟩
  -- while nobody knows it, nothing that waits for it may run
  have early : ∀ (L : Nat → Prop) i o j, (∀ i o, i < m → ops[i]? = some o → L i → ∀ k ∈ depsOf o, L k) → i < m → ops[i]? = some o → (∀ k ∈ depsOf o, L k) → (∀ e, e < m → memN e W = true → e ≠ q → (L e ↔ cntW W e < j)) → j < cntW W q → reach ops 6 i q = true → False := fun L i o j hcl hi ho hdL hj3 hjc hr => by
    rcases hqd i hi with h1 | h1
    · rw [hr] at h1; cases h1
    · obtain ⟨f, f1, f2, f3⟩ := cntW_hit q hjc
      rcases h1 f f1 with h2 | h2
      · rw [f2] at h2; cases h2
      · have := (hj3 f (by omega) f2 (by omega)).1 (clos L i o hcl hi ho hdL 6 f h2)
        omega
  refine wp_region_ghost hmix m hfree (J := J) (fun L L' vs us x hL hu ⟨j1, j, φ', Hj, G, j2, j3, j4, jG, jR, jX0, jX, j7, j8⟩ => ?_) ?_ (fun i o L vs x hi ho hnL hdL ⟨j1, j, φ', Hj, G, j2, j3, j4, jG, jR, jX0, jX, j7, j8⟩ => ?_) (fun vs x ⟨j1, j, φ', Hj, G, j2, j3, j4, jG, jR, jX0, jX, j7, j8⟩ => ?_)
  · refine ⟨fun i o hi ho hLi k hk => ?_, j, φ', Hj, G, j2, fun e he hw hne => by rw [← hL e he]; exact j3 e he hw hne, j4, jG, jR, jX0, jX, fun i o hi ho hLi hq => ?_, ?_⟩
    · have := hF.back i o ho k hk
      exact (hL k (by omega)).1 (j1 i o hi ho ((hL i hi).2 hLi) k hk)
    · rw [hu i hi ((hL i hi).2 hLi)]
      exact j7 i o hi ho ((hL i hi).2 hLi) hq
    · rcases j8 with ⟨g1, g2⟩ | ⟨b, zs, g1, g2, g3, g4, g5, g6, g7, g8⟩
      · exact .inl ⟨g1, by rw [← hL q hqm]; exact g2⟩
      · exact .inr ⟨b, zs, (hL q hqm).1 g1, g2, g3, g4, g5, by rw [hu q hqm g1]; exact g6, g7, g8⟩
  · refine ⟨fun i o hi ho hL => hL.elim, 0, φ, H, F, Nat.zero_le _, fun e he hw _ => ⟨fun h => h.elim, fun h => absurd h (Nat.not_lt_zero _)⟩, by rw [hst 0 (Nat.le_refl _)]; rfl, fun _ _ => Iff.rfl, hd0, hB.ext.trans hs0, hs0, fun i o hi ho hL => hL.elim, .inl ⟨rfl, ⟨fun h => h.elim, fun h => absurd h (Nat.not_lt_zero _)⟩⟩⟩
  · have close2 : ∀ (i' : Nat) (o' : Oper), i' < m → ops[i']? = some o' → (L i' ∨ i' = i) → ∀ k ∈ depsOf o', L k ∨ k = i := fun i' o' hi' ho' hL k hk => by
      rcases hL with hL | rfl
      · exact .inl (j1 i' o' hi' ho' hL k hk)
      · rw [ho] at ho'
        injection ho' with ho'
        subst ho'
        exact .inl (hdL k hk)
    have hTm : TRel G φ' Hj x N (maskT ops.toList (depsOf o) Tf m) (actAt ops a vs i) := temps G L vs φ' Hj x i (depsOf o) (by omega) jG jX (fun d hd => ⟨hF.back i o ho d hd, hdL d hd⟩) fun d o' hd' ho' hdd hLd => by
      refine j7 d o' hd' ho' hLd ?_
      by_cases e : d = q
      · right
        subst e
        rcases j8 with ⟨-, g2⟩ | ⟨b, zs, g1, g2, -⟩
        · exact g2.1 hLd
        · exact (early L i o j j1 hi ho hdL j3 g2 (reach_dep ho hdd)).elim
      · exact .inl e
    by_cases hiq : i = q
    · -- memory is made
      subst hiq
      have hob : oq = o := by rw [hoq] at ho; injection ho
      subst hob
      rcases j8 with ⟨g1, g2⟩ | ⟨b, zs, g1, -⟩
      · subst g1
        have hge : ¬ cntW W i < j := fun h => hnL (g2.2 h)
        by_cases hj : j = cntW W i
        · subst hj
          obtain ⟨Ha, Hb, k1, k2, k3⟩ := hwrite i oq (Nat.zero_le _) hi (by rw [hget]; exact ho) hqW
          rw [j4] at k1
          injection k1 with k1
          subst k1
          refine (k3 G φ' x _ jR hTm).mono fun u x' ⟨φ2, p1, p2, p3⟩ => ⟨close2, cntW W i + 1, φ2, Hb, G, hcm, fun e he hw hne => ?_, k2, jG, p1, jX0.trans p2, jX.trans p2, fun i' o' hi' ho' hL _ => ?_, .inl ⟨rfl, ⟨fun _ => Nat.lt_succ_self _, fun _ => .inr rfl⟩⟩⟩
          · have := cne e hw hne
            constructor
            · rintro (h | h)
              · have := (j3 e he hw hne).1 h; omega
              · exact absurd h hne
            · intro h
              exact .inl ((j3 e he hw hne).2 (by omega))
          · by_cases e : i' = i
            · subst e
              rw [ho] at ho'
              injection ho' with ho'
              subst ho'
              show RV _ _ (if i' = i' then u else vs i')
              rw [if_pos rfl]
              exact p3
            · show RV _ _ (if i' = i then u else vs i')
              rw [if_neg e]
              exact (j7 i' o' hi' ho' (hL.resolve_right e) (.inl e)).mono p2.le
        · have hjc : j < cntW W i := by omega
          unfold Does
          rw [if_pos (by simp [Region.wanted, hgq])]
          refine alloc_run hE hTq hopq fun z hz => ?_
          have hbl : Below x.heap.size x (x.alloc (.cells z.cells tq)) := ⟨rfl, rfl, rfl, by simp, fun k hk => Below.heap_alloc x _ k hk⟩
          obtain ⟨e1, e2⟩ := rel_enter jR hbl (by simp)
          have hwx : w.heap.size ≤ x.heap.size := jX.le.size
          have hGn : ∀ b, b < w.heap.size → (addF G x.heap.size b ↔ G b) := fun b hb => ⟨fun h => h.elim (fun h => h) fun e => by omega, .inl⟩
          have hX2 : Ext (addF G x.heap.size) φ' Hj x φ' Hj (x.alloc (.cells z.cells tq)) := below_ext hbl
          have hw0 : w0.heap.size ≤ w.heap.size := hB.ext.le.size
          refine ⟨close2, j, φ', Hj, addF G x.heap.size, j2, fun e he hw hne => ?_, j4, fun b hb => (hGn b hb).trans (jG b hb), e1, (ext_turn (fun b hb => hGn b (by omega)) (fun b hb => .inl) jX0).trans hX2, (ext_turn hGn (fun b hb => .inl) jX).trans hX2, fun i' o' hi' ho' hL hor => ?_, .inr ⟨x.heap.size, z.cells, .inr rfl, hjc, rfl, fun hF' => Nat.lt_irrefl _ (jR.flt _ hF'), hwx, ?_, heap_alloc_new x _, hz⟩⟩
          · constructor
            · rintro (h | h)
              · exact (j3 e he hw hne).1 h
              · exact absurd h hne
            · exact fun h => .inl ((j3 e he hw hne).2 h)
          · have e : i' ≠ i := hor.resolve_right (by omega)
            show RV _ _ (if i' = i then _ else vs i')
            rw [if_neg e]
            exact (j7 i' o' hi' ho' (hL.resolve_right e) (.inl e)).mono e2
          · show (if i = i then _ else vs i) = _
            rw [if_pos rfl]
      · exact absurd g1 hnL
    · cases hW : memN i W with
      | false =>
        have qno : ¬ cntW W q < j → reach ops 6 i q = false := fun hlt => by
          cases hr : reach ops 6 i q with
          | false => rfl
          | true =>
            rcases j8 with ⟨-, g2⟩ | ⟨b, zs, -, g2, -⟩
            · exact absurd (g2.1 (clos L i o j1 hi ho hdL 6 q hr)) hlt
            · exact (early L i o j j1 hi ho hdL j3 g2 hr).elim
        have qyes : cntW W q < j → L q := fun hlt => by
          rcases j8 with ⟨-, g2⟩ | ⟨b, zs, g1, -⟩
          · exact g2.2 hlt
          · exact g1
        refine (fact i o j hi ho hW j2 (fun e he hw => ⟨fun hlt => ?_, fun hlt => ?_⟩) Hj j4 G φ' x _ jR hTm).mono fun u x' ⟨p1, p2⟩ => ?_
        · cases hr : reach ops 6 e i with
          | false => rfl
          | true =>
            have hLe : L e := by
              by_cases eq : e = q
              · subst eq; exact qyes hlt
              · exact (j3 e he hw eq).2 hlt
            have hoe : ops[e]? = some ops[e] := Array.getElem?_eq_getElem (by omega)
            exact absurd (clos L e _ j1 he hoe (j1 e _ he hoe hLe) 6 i hr) hnL
        · by_cases eq : e = q
          · subst eq; exact qno hlt
          · cases hr : reach ops 6 i e with
            | false => rfl
            | true => exact absurd ((j3 e he hw eq).1 (clos L i o j1 hi ho hdL 6 e hr)) hlt
        · obtain ⟨g1, g2⟩ := jR.below p2
          refine ⟨close2, j, φ', Hj, G, j2, fun e he hw hne => ?_, j4, jG, g1, jX0.trans g2, jX.trans g2, fun i' o' hi' ho' hL hor => ?_, ?_⟩
          · rw [← j3 e he hw hne]
            refine ⟨fun h => ?_, Or.inl⟩
            rcases h with h | rfl
            · exact h
            · rw [hW] at hw; cases hw
          · by_cases e : i' = i
            · subst e
              rw [ho] at ho'
              injection ho' with ho'
              subst ho'
              show RV _ _ (if i' = i' then u else vs i')
              rw [if_pos rfl]
              exact p1
            · show RV _ _ (if i' = i then u else vs i')
              rw [if_neg e]
              exact (j7 i' o' hi' ho' (hL.resolve_right e) hor).mono g2.le
          · rcases j8 with ⟨k1, k2⟩ | ⟨b, zs, k1, k2, k3, k4, k5, k6, k7, k8⟩
            · exact .inl ⟨k1, ⟨fun h => k2.1 (h.resolve_right fun e => hiq e.symm), fun h => .inl (k2.2 h)⟩⟩
            · refine .inr ⟨b, zs, .inl k1, k2, k3, k4, k5, ?_, ?_, k8⟩
              · show (if q = i then u else vs q) = _
                rw [if_neg fun e => hiq e.symm]
                exact k6
              · rw [p2.block b (Array.getElem?_eq_some_iff.1 k7).1]
                exact k7
      | true =>
        have hge : ¬ cntW W i < j := fun h => hnL ((j3 i hi hW hiq).2 h)
        have hci := cne i hW hiq
        have hj : j = cntW W i := by
          rcases Nat.lt_or_ge j (cntW W i) with h | h
          · obtain ⟨f, f1, f2, f3⟩ := cntW_hit i h
            rcases hchain i hi with (h' | h') | h'
            · rw [hW] at h'; cases h'
            · exact absurd (Nat.eq_of_beq_eq_true h') hiq
            · rcases h' f f1 with h'' | h''
              · rw [f2] at h''; cases h''
              · have hLf := clos L i o j1 hi ho hdL 6 f h''
                by_cases ef : f = q
                · subst ef
                  rcases j8 with ⟨-, g2⟩ | ⟨b, zs, -, g2, -⟩
                  · have := g2.1 hLf; omega
                  · omega
                · have := (j3 f (by omega) f2 ef).1 hLf
                  omega
          · omega
        subst hj
        obtain ⟨Ha, Hb, g1, g2, g3⟩ := hwrite i o (Nat.zero_le _) hi (by rw [hget]; exact ho) hW
        rw [j4] at g1
        injection g1 with g1
        subst g1
        have hlt := cntW_lt hi hW
        have one : ∀ e, memN e W = true → cntW W e = cntW W i → e = i := fun e he h => cntW_inj he hW h
        refine (g3 G φ' x _ jR hTm).mono fun u x' ⟨φ2, p1, p2, p3⟩ => ?_
        have vals : ∀ i' o', i' < m → ops[i']? = some o' → (L i' ∨ i' = i) → (i' ≠ q ∨ cntW W q < cntW W i) → RV (cx G φ2 Hb x') (valOf o' Tf) (if i' = i then u else vs i') := fun i' o' hi' ho' hL hor => by
          by_cases e : i' = i
          · subst e
            rw [ho] at ho'
            injection ho' with ho'
            subst ho'
            rw [if_pos rfl]
            exact p3
          · rw [if_neg e]
            exact (j7 i' o' hi' ho' (hL.resolve_right e) hor).mono p2.le
        rcases j8 with ⟨k1, k2⟩ | ⟨b, zs, k1, k2, k3, k4, k5, k6, k7, k8⟩
        · refine ⟨close2, cntW W i + 1, φ2, Hb, G, by omega, fun e he hw hne => ?_, g2, jG, p1, jX0.trans p2, jX.trans p2, fun i' o' hi' ho' hL hor => vals i' o' hi' ho' hL (hor.imp_right fun h => by omega), .inl ⟨k1, ?_⟩⟩
          · constructor
            · rintro (h | rfl)
              · have := (j3 e he hw hne).1 h; omega
              · omega
            · intro h
              by_cases h' : cntW W e < cntW W i
              · exact .inl ((j3 e he hw hne).2 h')
              · exact .inr (one e hw (by omega))
          · constructor
            · rintro (h | h)
              · have := k2.1 h; omega
              · exact absurd h.symm hiq
            · exact fun h => .inl (k2.2 (by omega))
        · -- nobody knows it yet
          subst k3
          have hbx : b < x.heap.size := (Array.getElem?_eq_some_iff.1 k7).1
          have hnm : ¬ Wr φ' Hj b := fun ⟨id, k, h1, _, h2, h3⟩ => jR.forb id k h1 h2 (by rw [h3]; exact .inr rfl)
          have hb' : x'.heap[b]? = some (.cells zs tq (0, 0)) := (p2.le.blk b hbx hnm).trans k7
          by_cases hlast : cntW W i + 1 = cntW W q
          · have hHb : Hb = Hc := by
              rw [hlast] at g2
              rw [g2] at hstc
              injection hstc
            subst hHb
            have hst : SeatSt F x' := hB.rel.st.keep fun c hc => (jX.trans p2).le.blk c (hB.rel.flt c hc) fun ⟨id, k, h1, _, h2, h3⟩ => hB.rel.forb id k h1 h2 (by rw [h3]; exact hc)
            obtain ⟨r1, r2, r3, r4⟩ := rel_leave hst p1 k4 hb' k8
            have hw0 : w0.heap.size ≤ w.heap.size := hB.ext.le.size
            refine ⟨close2, cntW W q + 1, _, _, F, hcm, fun e he hw hne => ?_, hstk, fun _ _ => Iff.rfl, r1, ext_leave (jX0.trans p2) (by omega) p1.lt r3 r4, ext_leave (jX.trans p2) k5 p1.lt r3 r4, fun i' o' hi' ho' hL _ => ?_, .inl ⟨rfl, ⟨fun _ => Nat.lt_succ_self _, fun _ => .inl k1⟩⟩⟩
            · have := cne e hw hne
              constructor
              · rintro (h | rfl)
                · have := (j3 e he hw hne).1 h; omega
                · omega
              · intro h
                by_cases h' : cntW W e < cntW W i
                · exact .inl ((j3 e he hw hne).2 h')
                · exact .inr (one e hw (by omega))
            · by_cases e : i' = q
              · subst e
                rw [hoq] at ho'
                injection ho' with ho'
                subst ho'
                show RV _ _ (if i' = i then u else vs i')
                rw [if_neg fun e => hiq e.symm, k6, hvq]
                have := rv_ptr (C := cx F (upd φ2 Hb.n ⟨b, 0, 0, false⟩) (Hb.new (.obj false iq.zero)) x') (id := Hb.n) ⟨0, 0, 0, none⟩ (Nat.lt_succ_self _)
                simpa [cx, upd_same, Path.off, Path.inn, Path.jn] using this
              · exact (vals i' o' hi' ho' hL (.inl e)).mo r2
          · refine ⟨close2, cntW W i + 1, φ2, Hb, addF F b, by omega, fun e he hw hne => ?_, g2, jG, p1, jX0.trans p2, jX.trans p2, fun i' o' hi' ho' hL hor => vals i' o' hi' ho' hL (.inl (hor.resolve_right (by omega))), .inr ⟨b, zs, .inl k1, by omega, rfl, k4, k5, ?_, hb', k8⟩⟩
            · constructor
              · rintro (h | rfl)
                · have := (j3 e he hw hne).1 h; omega
                · omega
              · intro h
                by_cases h' : cntW W e < cntW W i
                · exact .inl ((j3 e he hw hne).2 h')
                · exact .inr (one e hw (by omega))
            · show (if q = i then u else vs q) = _
              rw [if_neg fun e => hiq e.symm]
              exact k6
  · -- all have run
    rcases j8 with ⟨g1, g2⟩ | ⟨b, zs, -, g2, -⟩
    · subst g1
      have hj : j = cntW W m := by
        rcases Nat.lt_or_ge j (cntW W m) with h | h
        · obtain ⟨f, f1, f2, f3⟩ := cntW_hit m h
          by_cases e : f = q
          · subst e; have := g2.1 f1; omega
          · have := (j3 f f1 f2 e).1 f1
            omega
        · omega
      subst hj
      have hHj : Hj = Hf := by
        rw [stAt, hlen, Nat.beq_refl] at j4
        injection j4 with j4
        exact j4.symm
      subst hHj
      have hTm : TRel G φ' Hj x N Tf (actAt ops a vs m) := by
        have := temps G (fun i => i < m) vs φ' Hj x m (List.range m) (Nat.le_refl _) (fun _ _ => Iff.rfl) jX (fun d hd => ⟨List.mem_range.1 hd, List.mem_range.1 hd⟩) (fun i o hi ho _ hL => j7 i o hi ho hL (by by_cases e : i = q; exact .inr (by omega); exact .inl e))
        refine ⟨this.size, fun t => ?_, this.defers⟩
        have h1 := this.get t
        rcases maskT_iff (ops := ops.toList) (deps := List.range m) (T := Tf) (t := t) m with ⟨-, h2⟩ | ⟨h2, -⟩
        · rw [← h2]; exact h1
        · exact absurd (fun i hi _ => List.mem_range.2 hi) h2
      exact reg_ok hE (ops.toList.drop m) Tf Hj φ' x _ K hreg ⟨jR, jX0, hB.lt0⟩ hTm hQ
    · obtain ⟨f, f1, f2, f3⟩ := cntW_hit q g2
      have := (j3 f (by omega) f2 (by omega)).1 (show f < m by omega)
      omega
end
end Go.Proofs.YtpkidbhpfohopaaDoor

noncomputable section
namespace Go.Proofs.YtpkidbhpfohopaaDoor
open Go.RowKit
set_option linter.unusedVariables false
set_option linter.unusedSimpArgs false
inductive Ex where
  | normal
  | exit (id : Nat)
  | ret
def Ex.to : Ex → Exit
  | .normal => .normal
  | .exit i => .exit i
  | .ret => .ret
structure LInv where
  X : Type
  T : X → Tmps
  H : X → Heap
  μ : X → Nat
def leT (ι : List Nat) (T : Tmps) : Tmps → Prop
  | [] => True
  | (t, p) :: r => leA ι (lookT T t) p ∧ leT ι T r
def roKeep (H H2 : Heap) : Nat → Prop
  | 0 => True
  | id + 1 => roKeep H H2 id ∧ match H.get id with
    | some b => bif b.ro then H2.get id = some b else True
    | none => True
def wfL (n : Nat) : List (Nat × Option Blk) → Bool
  | [] => true
  | (i, _) :: r => Nat.blt i n && wfL n r
def idPre : Nat → List Nat → Bool
  | 0, _ => true
  | n + 1, ι => idPre n ι && (match ι[n]? with | some j => Nat.beq j n | none => false)
/-- What is there may be told as this. -/
def wkD (n0 : Nat) (ι : List Nat) (H H2 : Heap) : Prop :=
  leHn ι H H2 H2.n ∧ (nodupB ι && Nat.beq ι.length H2.n && ltAll H.n ι && idPre n0 ι && wfL H2.n H2.l) = true ∧ roKeep H H2 n0
def zAdd : List (Nat × Nat × Ty) → Tmps → Heap → Option (Tmps × Heap)
  | [], T, H => some (T, H)
  | (t, e, ty) :: Z, T, H => match lookT T t with
    | .nils => zAdd Z ((t, .slc H.n) :: T) (H.new (.seq false e ty []))
    | _ => none
def pairsT (T : Tmps) : Tmps → List (Nat × Nat)
  | [] => []
  | (t, p) :: r => pairsA (lookT T t) p ++ pairsT T r
def leS (n0 : Nat) (Z : List (Nat × Nat × Ty)) (T : Tmps) (H : Heap) (T2 : Tmps) (H2 : Heap) : Prop :=
  match zAdd Z T H with
  | some (T1, H1) => fI (matchI n0 (pairsT T1 T2) H1 H2) fun ι => leT ι T1 T2 ∧ wkD n0 ι H1 H2
  | none => False
def lookM : List (Nat × Nat) → Nat → Nat
  | [], _ => 0
  | (i, m) :: r, k => bif Nat.beq i k then m else lookM r k
def lookAll : List (Nat × Nat) → Nat → List Nat
  | [], _ => []
  | (i, m) :: r, k => bif Nat.beq i k then m :: lookAll r k else lookAll r k
def pairZ (j : Nat) (Z : List (Nat × Nat)) : List Nat → List (Nat × Nat)
  | [] => Z
  | i :: r => (i, j) :: pairZ j Z r
def zOf (ms : List (Nat × Nat)) (id : Nat) : Nat → List (Nat × Nat)
  | 0 => []
  | j + 1 => pairZ j (zOf ms id j) (lookAll ms (id + 3000000 + 1000000 * j))
/-- The region that a piece of code begins with: where paths may be joined. -/
def firstR : Code → Nat
  | .region id _ _ => id
  | .seq a _ => firstR a
  | .block _ c => firstR c
  | .loop c => firstR c
  | _ => 999999
def seqK (F : Tmps → Heap → (Ex → Tmps → Heap → Prop) → Prop) (K : Ex → Tmps → Heap → Prop) (e : Ex) (T : Tmps) (H : Heap) : Prop :=
  match e with
  | .normal => F T H K
  | e => K e T H
def joinK (n0 : Nat) (I : LInv) (K : Ex → Tmps → Heap → Prop) (e : Ex) (T : Tmps) (H : Heap) : Prop :=
  match e with
  | .normal => ∃ x Z, leS n0 Z T H (I.T x) (I.H x)
  | e => K e T H
def blkK (id : Nat) (K : Ex → Tmps → Heap → Prop) (e : Ex) (T : Tmps) (H : Heap) : Prop :=
  match e with
  | .exit i => bif Nat.beq i id then K .normal T H else K (.exit i) T H
  | e => K e T H
def loopK (n0 : Nat) (I : LInv) (x : I.X) (K : Ex → Tmps → Heap → Prop) (e : Ex) (T' : Tmps) (H' : Heap) : Prop :=
  match e with
  | .normal => ∃ x', I.μ x' < I.μ x ∧ leS n0 [] T' H' (I.T x') (I.H x')
  | e => K e T' H'
def codeD (E : Env) (N n0 : Nat) (ms : List (Nat × Nat)) : Code → Tmps → Heap → (Ex → Tmps → Heap → Prop) → Prop
  | .skip, T, H, K => K .normal T H
  | .region id ops draw, T, H, K => bif draw then (match lookAll ms (id + 2000000) with
    | [] => drawD E N ops.toList (lookM ms id) T H (K .normal)
    | e :: W => match lookAll ms (id + 90000000) with
      | [] => drawE E N ops.toList (lookM ms id) (e :: W) (zOf ms id 6) T H (K .normal)
      | q :: _ => drawA E N ops.toList (lookM ms id) (e :: W) (zOf ms id 6) q T H (K .normal)) else regD E N ops.toList ops.toList T H (K .normal)
  | .seq a b, T, H, K => bif Nat.beq (lookM ms (firstR b + 1000000)) 1 then (∃ I : LInv, codeD E N n0 ms a T H (joinK n0 I K) ∧ ∀ x, codeD E N n0 ms b (I.T x) (I.H x) K) else codeD E N n0 ms a T H (seqK (codeD E N n0 ms b) K)
  | .cond c a b, T, H, K => match rho T c with
    | .bool x => (x = true → codeD E N n0 ms a T H K) ∧ (x = false → codeD E N n0 ms b T H K)
    | _ => False
  | .block id c, T, H, K => codeD E N n0 ms c T H (blkK id K)
  | .loop c, T, H, K => ∃ I : LInv, (∃ x Z, leS n0 Z T H (I.T x) (I.H x)) ∧ ∀ x, codeD E N n0 ms c (I.T x) (I.H x) (loopK n0 I x K)
  | .exit id, T, H, K => K (.exit id) T H
  | .ret, T, H, K => K .ret T H
  | _, _, _, _ => False
section
variable {P : Program} {E : Env} {F : Nat → Prop} {φ : Nat → RS} {H : Heap} {w : World} {N : Nat} {T : Tmps} {a : Act} {φ0 : Nat → RS} {H0 : Heap} {w0 : World}
theorem wfL_get {n : Nat} : ∀ {l : List (Nat × Option Blk)} {id : Nat} {k : Blk}, wfL n l = true → lookH l id = some k → id < n
  | [], id, k, h, hk => by cases hk
  | (i, b) :: l, id, k, h, hk => by
    simp only [wfL, Bool.and_eq_true] at h
    rw [lookH, Bool.cond_eq_ite] at hk
    split at hk
    · rename_i e
      rw [← Nat.eq_of_beq_eq_true e]
      simpa using h.1
    · exact wfL_get h.2 hk
theorem idPre_get : ∀ {n : Nat} {ι : List Nat} {j : Nat}, idPre n ι = true → j < n → ι[j]? = some j
  | n + 1, ι, j, h, hj => by
    simp only [idPre, Bool.and_eq_true] at h
    by_cases e : j = n
    · subst e
      have := h.2
      split at this
      · rename_i i hi
        rw [hi, Nat.eq_of_beq_eq_true this]
      · cases this
    · exact idPre_get h.1 (by omega)
theorem roKeep_get {H2 : Heap} : ∀ {n : Nat} {id : Nat} {k : Blk}, roKeep H H2 n → id < n → H.get id = some k → k.ro = true → H2.get id = some k
  | n + 1, id, k, h, hid, hk, hro => by
    by_cases e : id = n
    · subst e
      have := h.2
      rw [hk] at this
      simpa [hro] using this
    · exact roKeep_get h.1 (by omega) hk hro
theorem wk_ok {H2 : Heap} {ι : List Nat} (hB : Base F φ0 H0 w0 φ H w) (h : wkD H0.n ι H H2) : Base F φ0 H0 w0 (φc φ ι) H2 w ∧ Sub ι (cx F φ H w) (cx F (φc φ ι) H2 w) := by
  obtain ⟨h1, h2, h3⟩ := h
  simp only [Bool.and_eq_true] at h2
  obtain ⟨⟨⟨⟨hnd, hlen⟩, hltA⟩, hpre⟩, hwf⟩ := h2
  have hlen := Nat.eq_of_beq_eq_true hlen
  have hlt : ∀ id k, H2.get id = some k → id < H2.n := fun id k hk => wfL_get hwf hk
  have hS := sub_ok hB.rel hlt hlen h1
  have hR := sub_rel hB.rel hlt hlen h1 hnd
  have le : (cx (Fc F φ ι H H2) (φc φ ι) H2 w).Le (cx F (φc φ ι) H2 w) := ⟨fun _ _ => rfl, Nat.le_refl _, fun b _ hm h => hm (h.elim .inl (fun h => .inr (.inl h))), Nat.le_refl _, fun _ _ _ => rfl, fun _ _ h => h⟩
  have hR' : Rel F (φc φ ι) H2 w := ⟨hB.rel.st, hR.lt, fun id k hk => (hR.blk id k hk).mono le (fun _ => rfl), hR.inj, fun id k hk hn hf => hR.forb id k hk hn (.inl hf), hB.rel.flt⟩
  have hmut : ∀ b, Mut (φc φ ι) H2 b → Mut φ H b := fun b ⟨j, pb, hj, hn, he⟩ => by
    obtain ⟨id, b', g1, g2, -⟩ := leHn_get h1 j pb (hlt _ _ hj) hj
    rw [φc_get g1] at hn he
    exact ⟨id, b', g2, hn, he⟩
  have hwr : ∀ b, Wr (φc φ ι) H2 b → Wr φ H b := fun b ⟨j, pb, hj, hro, hn, he⟩ => by
    obtain ⟨id, b', g1, g2, g3⟩ := leHn_get h1 j pb (hlt _ _ hj) hj
    rw [φc_get g1] at hn he
    refine ⟨id, b', g2, ?_, hn, he⟩
    cases b' <;> cases pb <;> first | exact g3.elim | (have g4 := g3.1; simp only [Blk.ro] at hro ⊢; rw [hro] at g4; first | simpa using g4 | (simp at g4; exact g4.1))
  have hn0 : H0.n ≤ H2.n := by
    rcases Nat.eq_zero_or_pos H0.n with h | h
    · omega
    · have := (List.getElem?_eq_some_iff.1 (idPre_get hpre (j := H0.n - 1) (by omega))).1
      omega
  refine ⟨⟨hR', ⟨⟨fun id hid => ?_, hn0, fun b hb hm => ?_, hB.ext.le.size, hB.ext.le.blk, fun b hb hm h => hB.ext.le.wr b hb hm (hwr b h)⟩, fun id k hk hro => ?_, hB.ext.os, hB.ext.tape, hB.ext.output⟩, hB.lt0⟩, ⟨hS.φ, fun b hb hm h => ?_, rfl⟩⟩
  · show φc φ ι id = φ0 id
    rw [φc_get (idPre_get hpre hid)]
    exact hB.ext.le.φ id hid
  · rintro (h | h)
    · exact hB.ext.le.mt b hb hm (.inl (hmut b h))
    · exact hm (.inr h)
  · exact roKeep_get h3 (hB.lt0 id k hk) (hB.ext.ro id k hk hro) hro
  · rcases h with h | h
    · exact hm (.inl (hmut b h))
    · exact hm (.inr h)
theorem leT_ok {H2 : Heap} {φ2 : Nat → RS} {ι : List Nat} (hT : TRel F φ H w N T a) (hS : Sub ι (cx F φ H w) (cx F φ2 H2 w)) : ∀ {T2 : Tmps}, leT ι T T2 → TRel F φ2 H2 w N T2 a
  | [], _ => ⟨hT.size, fun t => trivial, hT.defers⟩
  | (d, p) :: r, h => by
    obtain ⟨h1, h2⟩ := h
    have ih := leT_ok hT hS h2
    refine ⟨hT.size, fun t => ?_, hT.defers⟩
    rw [lookT_cons]
    split
    · rename_i e
      subst e
      have := hT.get t
      by_cases hu : p = .undef
      · subst hu; trivial
      · have h3 : RV1 (cx F φ H w) (lookT T t) (a.tmps.getD t undef) := by
          cases hl : lookT T t <;> rw [hl] at this h1 <;> simp only [RV] at this <;> first | exact this | (cases p <;> first | exact absurd rfl hu | exact h1.elim)
        exact rv_of_rv1 (leA_ok hS h1 h3)
    · exact ih.get t
theorem zAdd_ok : ∀ (Z : List (Nat × Nat × Ty)) (T : Tmps) (H : Heap) (φ : Nat → RS) (T1 : Tmps) (H1 : Heap), zAdd Z T H = some (T1, H1) → Base F φ0 H0 w0 φ H w → TRel F φ H w N T a → ∃ φ1, Base F φ0 H0 w0 φ1 H1 w ∧ TRel F φ1 H1 w N T1 a
  | [], T, H, φ, T1, H1, h, hB, hT => by cases h; exact ⟨φ, hB, hT⟩
  | (t, e, ty) :: Z, T, H, φ, T1, H1, h, hB, hT => by
    rw [zAdd] at h
    split at h
    · rename_i hl
      obtain ⟨r1, r2⟩ := new_nil hB.rel e ty
      refine zAdd_ok Z _ _ _ T1 H1 h ⟨r1, hB.ext.trans r2, hB.lt0⟩ ?_
      have hT' := hT.mono r2.le
      refine ⟨hT'.size, fun t' => ?_, hT'.defers⟩
      rw [lookT_cons]
      split
      · rename_i e
        subst e
        have h1 := hT.get t'
        rw [hl] at h1
        have h2 := rv_nils_inv h1
        rw [h2]
        have := Reps.slc (C := cx F (upd φ H.n ⟨0, 0, 0, true⟩) (H.new (.seq false e ty [])) w) (id := H.n) (Nat.lt_succ_self _) Reps.nil
        simpa [RV, RV1, cx, upd_same, RS.sl] using this
      · exact hT'.get t'
    · cases h
theorem leS_ok {Z : List (Nat × Nat × Ty)} {T2 : Tmps} {H2 : Heap} (h : leS H0.n Z T H T2 H2) (hB : Base F φ0 H0 w0 φ H w) (hT : TRel F φ H w N T a) : ∃ φ2, Base F φ0 H0 w0 φ2 H2 w ∧ TRel F φ2 H2 w N T2 a := by
  unfold leS at h
  split at h
  · rename_i T1 H1 hz
    rw [fI_eq] at h
    obtain ⟨φ1, hB1, hT1⟩ := zAdd_ok Z T H φ T1 H1 hz hB hT
    obtain ⟨g1, g2⟩ := wk_ok hB1 h.2
    exact ⟨_, g1, leT_ok hT1 g2 h.1⟩
  · exact h.elim
theorem code_ok (hE : E.Ok P) (hmix : P.follows .mixedOrders = true) {ms : List (Nat × Nat)} : ∀ (c : Code) (T : Tmps) (H : Heap) (φ : Nat → RS) (w : World) (a : Act) (K : Ex → Tmps → Heap → Prop) (Q : Exit → Act → World → Prop), codeD E N H0.n ms c T H K → Base F φ0 H0 w0 φ H w → TRel F φ H w N T a →
    (∀ e T' H' φ' w' a', K e T' H' → Base F φ0 H0 w0 φ' H' w' → TRel F φ' H' w' N T' a' → Q e.to a' w') → c.wp P Q a w := by
  intro c
  induction c with
  | skip => exact fun T H φ w a K Q h hB hT hQ => wp_skip (hQ .normal T H φ w a h hB hT)
  | region id ops draw =>
    intro T H φ w a K Q h hB hT hQ
    cases draw with
    | true =>
      have h2 : (match lookAll ms (id + 2000000) with
        | [] => drawD E N ops.toList (lookM ms id) T H (K .normal)
        | e :: W => match lookAll ms (id + 90000000) with
          | [] => drawE E N ops.toList (lookM ms id) (e :: W) (zOf ms id 6) T H (K .normal)
          | q :: _ => drawA E N ops.toList (lookM ms id) (e :: W) (zOf ms id 6) q T H (K .normal)) := h
      split at h2
      · exact draw_ok hE hmix h2 hB hT (fun T' H' φ' w' a' hk hB' hT' => hQ .normal T' H' φ' w' a' hk hB' hT')
      · split at h2
        · exact drawE_ok hE hmix h2 hB hT (fun T' H' φ' w' a' hk hB' hT' => hQ .normal T' H' φ' w' a' hk hB' hT')
        · exact drawA_ok hE hmix h2 hB hT (fun T' H' φ' w' a' hk hB' hT' => hQ .normal T' H' φ' w' a' hk hB' hT')
    | false => exact wp_region_list (reg_ok hE ops.toList T H φ w a _ h hB hT (fun T' H' φ' w' a' hk hB' hT' => hQ .normal T' H' φ' w' a' hk hB' hT'))
  | seq x y ihx ihy =>
    intro T H φ w a K Q h hB hT hQ
    rw [codeD, Bool.cond_eq_ite] at h
    split at h
    · obtain ⟨I, h1, h2⟩ := h
      refine wp_seq (ihx T H φ w a _ _ h1 hB hT fun e T' H' φ' w' a' hk hB' hT' => ?_)
      cases e with
      | normal =>
        obtain ⟨x, Z, hs⟩ := hk
        obtain ⟨φ1, hB1, hT1⟩ := leS_ok hs hB' hT'
        exact ihy _ _ φ1 w' a' K Q (h2 x) hB1 hT1 hQ
      | exit i => exact hQ (.exit i) T' H' φ' w' a' hk hB' hT'
      | ret => exact hQ .ret T' H' φ' w' a' hk hB' hT'
    · refine wp_seq (ihx T H φ w a _ _ h hB hT fun e T' H' φ' w' a' hk hB' hT' => ?_)
      cases e with
      | normal => exact ihy T' H' φ' w' a' K Q hk hB' hT' hQ
      | exit i => exact hQ (.exit i) T' H' φ' w' a' hk hB' hT'
      | ret => exact hQ .ret T' H' φ' w' a' hk hB' hT'
  | cond c x y ihx ihy =>
    intro T H φ w a K Q h hB hT hQ
    rw [codeD] at h
    split at h
    · rename_i b hb
      have hv := rv_bool_inv (by have := rho_ok hT c; rwa [hb] at this)
      exact wp_cond_split hv (fun e => ihx T H φ w a K Q (h.1 e) hB hT hQ) (fun e => ihy T H φ w a K Q (h.2 e) hB hT hQ)
    · exact h.elim
  | block id c ih =>
    intro T H φ w a K Q h hB hT hQ
    refine wp_block (ih T H φ w a _ _ h hB hT fun e T' H' φ' w' a' hk hB' hT' => ?_)
    cases e with
    | normal => exact hQ .normal T' H' φ' w' a' hk hB' hT'
    | exit i =>
      simp only [blkK, Bool.cond_eq_ite] at hk
      show if i = id then Q .normal a' w' else Q (.exit i) a' w'
      split at hk
      · rename_i e
        rw [if_pos (Nat.eq_of_beq_eq_true e)]
        exact hQ .normal T' H' φ' w' a' hk hB' hT'
      · rename_i e
        rw [if_neg (fun e' => e (by rw [e', Nat.beq_refl]))]
        exact hQ (.exit i) T' H' φ' w' a' hk hB' hT'
    | ret => exact hQ .ret T' H' φ' w' a' hk hB' hT'
  | loop c ih =>
    intro T H φ w a K Q h hB hT hQ
    obtain ⟨I, ⟨x0, Z, h0⟩, hr⟩ := h
    obtain ⟨φ1, hB1, hT1⟩ := leS_ok h0 hB hT
    refine wp_loop_ghost (fun n a w => ∃ x φ, I.μ x = n ∧ Base F φ0 H0 w0 φ (I.H x) w ∧ TRel F φ (I.H x) w N (I.T x) a) (I.μ x0) ⟨x0, φ1, rfl, hB1, hT1⟩ ?_
    rintro n a1 w1 ⟨x, φ2, rfl, hB2, hT2⟩
    refine ih _ _ φ2 w1 a1 _ _ (hr x) hB2 hT2 fun e T' H' φ' w' a' hk hB' hT' => ?_
    cases e with
    | normal =>
      obtain ⟨x', hμ, hs⟩ := hk
      obtain ⟨φ3, hB3, hT3⟩ := leS_ok hs hB' hT'
      exact ⟨I.μ x', hμ, x', φ3, rfl, hB3, hT3⟩
    | exit i => exact hQ (.exit i) T' H' φ' w' a' hk hB' hT'
    | ret => exact hQ .ret T' H' φ' w' a' hk hB' hT'
  | exit id => exact fun T H φ w a K Q h hB hT hQ => wp_exit (hQ (.exit id) T H φ w a h hB hT)
  | ret => exact fun T H φ w a K Q h hB hT hQ => wp_ret (hQ .ret T H φ w a h hB hT)
  | _ => exact fun T H φ w a K Q h => h.elim
end
end Go.Proofs.YtpkidbhpfohopaaDoor

noncomputable section
namespace Go.Proofs.YtpkidbhpfohopaaDoor
open Go.RowKit
set_option linter.unusedVariables false
set_option linter.unusedSimpArgs false
def resD (E : Env) (T : Tmps) (H : Heap) : List ResultVar → Option (Prop × List AV)
  | [] => some (True, [])
  | .tmp t :: r => match resD E T H r with
    | some (q, as) => bif noTup (lookT T t) then some (q, lookT T t :: as) else none
    | none => none
  | .cell a ty :: r => match E.T ty with
    | some i => match lookT T a with
      | .ptr id p => match readL H id p i.n with
        | some (q1, cs) => match ofL i.k.agg cs with
          | some v => match resD E T H r with
            | some (q, as) => bif noTup v then some (q1 ∧ q, v :: as) else none
            | none => none
          | none => none
        | none => none
      | _ => none
    | none => none
def pats : AV → List AV
  | .tup l => l
  | a => [a]
def shapeOk (n : Nat) : AV → Bool
  | .tup _ => !Nat.beq n 1
  | _ => Nat.beq n 1
/-- A nil slice where a slice of its own memory is wanted: one without elements. -/
def retFix (H' : Heap) : List AV → List AV → Heap → List AV × Heap
  | p :: ps, a :: as, H => match p with
    | .slc j => match a with
      | .nils => match H'.get j with
        | some (.seq _ e t _) => match retFix H' ps as (H.new (.seq false e t [])) with
          | (bs, H2) => (.slc H.n :: bs, H2)
        | _ => match retFix H' ps as H with
          | (bs, H2) => (a :: bs, H2)
      | a => match retFix H' ps as H with
        | (bs, H2) => (a :: bs, H2)
    | _ => match retFix H' ps as H with
      | (bs, H2) => (a :: bs, H2)
  | _, as, H => (as, H)
def retD (E : Env) (n0 : Nat) (rs : List ResultVar) (res : AV) (H' : Heap) (T : Tmps) (H : Heap) : Prop :=
  match resD E T H rs with
  | some (q, as) => q ∧ shapeOk rs.length res = true ∧ match retFix H' (pats res) as H with | (as0, Hx) => match lendL false (pats res) as0 Hx with
    | some (as1, H1) => fI (matchI n0 (pairsAs as1 (pats res)) H1 H') fun ι => leAs ι as1 (pats res) ∧ wkD n0 ι H1 H'
    | none => False
  | none => False
def argT : Nat → List AV → Tmps
  | _, [] => []
  | n, a :: as => (n, a) :: argT (n + 1) as
def okInts : List AV → Prop
  | [] => True
  | .int k n :: r => okN k n ∧ okInts r
  | .vsl _ xs :: r => xs.length ≤ 9223372036854775807 ∧ okInts r
  | .arr n _ xs :: r => xs.length = n ∧ okInts r
  | _ :: r => okInts r
def okT (t : Ty) (x : t.den) : Prop := okInts (enc t x)
def okLs : List AV → Prop
  | [] => True
  | .int k n :: r => okN k n ∧ okLs r
  | .vsl t xs :: r => (xs.length ≤ 9223372036854775807 ∧ ∀ x ∈ xs, okT t x) ∧ okLs r
  | .arr n t xs :: r => (xs.length = n ∧ ∀ x ∈ xs, okT t x) ∧ okLs r
  | _ :: r => okLs r
def okA : AV → Prop
  | .agg cs => okLs cs
  | a => okLs [a]
def okAs : List AV → Prop
  | [] => True
  | a :: r => okA a ∧ okAs r
def okBlk : Blk → Prop
  | .objT _ _ cs => okLs cs
  | .seq _ _ t xs => xs.length ≤ 9223372036854775807 ∧ ∀ x ∈ xs, okT t x
  | .map _ t es => es.length ≤ 9223372036854775807 ∧ (∀ e ∈ es, okN .i64 e.1 ∧ okT t e.2) ∧ es.Pairwise (fun p q => p.1 < q.1)
def okH (H : Heap) : Nat → Prop
  | 0 => True
  | j + 1 => okH H j ∧ match H.get j with
    | some b => okBlk b
    | none => True
section
variable {C : Cx}
theorem okInts_of {as : List AV} {vs : List Value} (h : Reps C as vs) : okInts as := by
  induction h with
  | nil => trivial
  | int a b h ih => exact ⟨okN_iff.2 ⟨a, b⟩, ih⟩
  | vsl ws a b c d h ih1 ih2 => exact ⟨by have := Nat.le_trans a b.1; simpa [maxLen] using this, ih2⟩
  | arr a b h ih1 ih2 => exact ⟨b, ih2⟩
  | _ => assumption
theorem okFlat {t : Ty} : ∀ {xs : List t.den} {us : List Value}, Reps C (xs.flatMap (enc t)) us → ∀ x ∈ xs, okT t x
  | x :: xs, us, h, y, hy => by
    rw [List.flatMap_cons] at h
    obtain ⟨u1, u2, rfl, h1, h2⟩ := Reps.append_inv h
    rcases List.mem_cons.1 hy with rfl | hy
    · exact okInts_of h1
    · exact okFlat h2 y hy
theorem okLs_of {as : List AV} {vs : List Value} (h : Reps C as vs) : okLs as := by
  induction h with
  | nil => trivial
  | int a b h ih => exact ⟨okN_iff.2 ⟨a, b⟩, ih⟩
  | vsl ws a b c d h ih1 ih2 =>
    refine ⟨⟨by have := Nat.le_trans a b.1; simpa [maxLen] using this, fun x hx => ?_⟩, ih2⟩
    obtain ⟨i, hi, rfl⟩ := List.getElem_of_mem hx
    exact okInts_of (d i _ (List.getElem?_eq_getElem hi))
  | arr a b h ih1 ih2 => exact ⟨⟨b, okFlat a⟩, ih2⟩
  | _ => assumption
theorem okA_of {a : AV} {v : Value} (h : RV1 C a v) : okA a := by
  cases a with
  | undef => trivial
  | agg cs => obtain ⟨vs, -, hr⟩ := h; exact okLs_of hr
  | tup l => exact h.elim
  | _ => exact okLs_of (as := [_]) h
theorem okAs_of : ∀ {as : List AV} {vs : List Value}, RVs C as vs → okAs as
  | [], _, _ => trivial
  | a :: as, v :: vs, h => ⟨okA_of h.1, okAs_of h.2⟩
  | _ :: _, [], h => h.elim
end
section
variable {P : Program} {E : Env} {F : Nat → Prop} {φ : Nat → RS} {H : Heap} {w : World} {N : Nat} {T : Tmps} {a : Act} {φ0 : Nat → RS} {H0 : Heap} {w0 : World}
theorem okH_of (hR : Rel F φ H w) : ∀ n, okH H n
  | 0 => trivial
  | j + 1 => by
    refine ⟨okH_of hR j, ?_⟩
    split
    · rename_i b hb
      have := hR.blk _ _ hb
      cases b with
      | objT ro ty cs => obtain ⟨-, vs, e, -, hr⟩ := this; exact okLs_of hr
      | seq ro e t xs =>
        obtain ⟨-, -, us, hr, -⟩ := this
        exact ⟨by have := (seq_len hR hb).1; simpa [maxLen] using this, okFlat hr⟩
      | map ro t es =>
        obtain ⟨-, vs, h1, h2⟩ := this
        have hl := h2.len
        rw [h1.length] at hl
        refine ⟨by simpa [maxLen] using hl, fun e he => ?_, RE.sorted h1 h2.sorted⟩
        obtain ⟨v, hv⟩ := RE.all h1 e he
        refine ⟨okN_iff.2 (by simpa [Lit.wf] using hv.wf), ?_⟩
        have h4 := hv.val
        unfold RX at h4
        by_cases ha : t.agg = true
        · rw [if_pos ha] at h4
          obtain ⟨us, -, h5⟩ := h4
          exact okInts_of h5
        · rw [if_neg ha] at h4
          exact okInts_of h4
    · trivial
theorem argT_look {T : Tmps} : ∀ (as : List AV) (n t : Nat), lookT (argT n as) t = if n ≤ t ∧ t < n + as.length then as.getD (t - n) .undef else .undef
  | [], n, t => by simp [argT, lookT]
  | a :: as, n, t => by
    rw [argT, lookT_cons, argT_look (T := T) as (n + 1) t]
    by_cases e : t = n
    · subst e
      simp
    · rw [if_neg e]
      by_cases h : n ≤ t ∧ t < n + (a :: as).length
      · rw [if_pos h, if_pos (by simp at h ⊢; omega)]
        obtain ⟨m, hm⟩ : ∃ m, t - n = m + 1 := ⟨t - n - 1, by omega⟩
        rw [hm, show t - (n + 1) = m from by omega]
        rfl
      · rw [if_neg h, if_neg (by simp at h ⊢; omega)]
def resRun (tmps : Array Value) : ResultVar → Sem Value
  | .tmp t => pure (tmps.getD t undef)
  | .cell a t => do loadVar t (← asAddr (tmps.getD a undef))
theorem results_eq (fn : Func) (tmps : Array Value) : results fn tmps = (do
    let vs ← fn.results.mapM (resRun tmps)
    pure (if h : vs.size = 1 then vs[0] else .tuple vs)) := rfl
theorem mapM_run {f : ResultVar → Sem Value} {w : World} : ∀ (rs : List ResultVar) (vs : List Value), rs.length = vs.length → (∀ (j : Nat) r v, rs[j]? = some r → vs[j]? = some v → (f r).run P w = .ok v w) → (rs.mapM f).run P w = .ok vs w
  | [], [], _, _ => by simp
  | r :: rs, v :: vs, hl, h => by
    simp [List.mapM_cons, h 0 r v rfl rfl, mapM_run rs vs (by simpa using hl) (fun j r v hr hv => h (j + 1) r v hr hv)]
theorem resD_ok (hE : E.Ok P) (hR : Rel F φ H w) (hT : TRel F φ H w N T a) : ∀ (rs : List ResultVar) (q : Prop) (as : List AV), resD E T H rs = some (q, as) → q → ∃ vs, RVs (cx F φ H w) as vs ∧ rs.length = vs.length ∧ ∀ (j : Nat) r v, rs[j]? = some r → vs[j]? = some v → (resRun a.tmps r).run P w = .ok v w
  | [], q, as, h, hq => by
    cases h
    exact ⟨[], trivial, rfl, fun j r v hr => by simp at hr⟩
  | .tmp t :: rs, q, as, h, hq => by
    rw [resD] at h
    split at h
    · rename_i q' as' hr
      rw [Bool.cond_eq_ite] at h
      split at h
      · rename_i hnt
        cases h
        obtain ⟨vs, h1, h2, h3⟩ := resD_ok hE hR hT rs q as' hr hq
        have hv := hT.get t
        have hv1 : RV1 (cx F φ H w) (lookT T t) (a.tmps.getD t undef) := by
          cases hl : lookT T t <;> rw [hl] at hv hnt <;> simp only [RV] at hv <;> first | exact hv | cases hnt
        refine ⟨a.tmps.getD t undef :: vs, ⟨hv1, h1⟩, by simp [h2], fun j r v hr hvv => ?_⟩
        cases j with
        | zero =>
          simp at hr hvv
          subst hr hvv
          simp [resRun]
        | succ j => exact h3 j r v (by simpa using hr) (by simpa using hvv)
      · cases h
    · cases h
  | .cell c ty :: rs, q, as, h, hq => by
    rw [resD] at h
    split at h
    · rename_i i hTi
      split at h
      · rename_i id p hl
        split at h
        · rename_i q1 cs hrd
          split at h
          · rename_i av ho
            split at h
            · rename_i q2 as' hr
              rw [Bool.cond_eq_ite] at h
              split at h
              · rename_i hnt
                cases h
                obtain ⟨vs, h1, h2, h3⟩ := resD_ok hE hR hT rs q2 as' hr hq.2
                obtain ⟨u, h5, h6⟩ := load_ok hE hR hTi hrd ho hq.1
                have hp := hT.get c
                rw [hl] at hp
                obtain ⟨hpv, -⟩ := rv_ptr_inv hp
                have hv1 : RV1 (cx F φ H w) av u := by
                  cases av <;> simp only [RV] at h6 <;> first | exact h6 | cases hnt
                refine ⟨u :: vs, ⟨hv1, h1⟩, by simp [h2], fun j r v hr hvv => ?_⟩
                cases j with
                | zero =>
                  simp at hr hvv
                  subst hr hvv
                  simp only [resRun, hpv, asAddr, Sem.run_bind, Sem.run_pure, Result.andThen_ok]
                  exact h5
                | succ j => exact h3 j r v (by simpa using hr) (by simpa using hvv)
              · cases h
            · cases h
          · cases h
        · cases h
      · cases h
    · cases h
theorem RVs_length {C : Cx} : ∀ {as : List AV} {vs : List Value}, RVs C as vs → as.length = vs.length
  | [], [], _ => rfl
  | a :: as, v :: vs, h => by simp [RVs_length h.2]
  | [], _ :: _, h => h.elim
  | _ :: _, [], h => h.elim
theorem retFix_ok {H' : Heap} : ∀ (ps as : List AV) (H : Heap) (φ : Nat → RS) (vs : List Value), Base F φ0 H0 w0 φ H w → RVs (cx F φ H w) as vs → ∃ φ1, Base F φ0 H0 w0 φ1 (retFix H' ps as H).2 w ∧ RVs (cx F φ1 (retFix H' ps as H).2 w) (retFix H' ps as H).1 vs ∧ (cx F φ H w).Le (cx F φ1 (retFix H' ps as H).2 w)
  | [], as, H, φ, vs, hB, hv => by
    have : retFix H' [] as H = (as, H) := by cases as <;> rfl
    rw [this]
    exact ⟨φ, hB, hv, Cx.Le.refl _⟩
  | p :: ps, [], H, φ, vs, hB, hv => ⟨φ, hB, hv, Cx.Le.refl _⟩
  | p :: ps, a :: as, H, φ, [], hB, hv => hv.elim
  | p :: ps, a :: as, H, φ, v :: vs, hB, hv => by
    have keep : retFix H' (p :: ps) (a :: as) H = (a :: (retFix H' ps as H).1, (retFix H' ps as H).2) → ∃ φ1, Base F φ0 H0 w0 φ1 (retFix H' (p :: ps) (a :: as) H).2 w ∧ RVs (cx F φ1 (retFix H' (p :: ps) (a :: as) H).2 w) (retFix H' (p :: ps) (a :: as) H).1 (v :: vs) ∧ (cx F φ H w).Le (cx F φ1 (retFix H' (p :: ps) (a :: as) H).2 w) := fun e => by
      obtain ⟨φ1, h1, h2, h3⟩ := retFix_ok ps as H φ vs hB hv.2
      rw [e]
      exact ⟨φ1, h1, ⟨hv.1.mono h3, h2⟩, h3⟩
    cases p with
    | slc j =>
      cases a with
      | nils =>
        cases hg : H'.get j with
        | none => exact keep (by simp only [retFix, hg])
        | some b =>
          cases b with
          | objT ro ty cs => exact keep (by simp only [retFix, hg])
          | map ro t es => exact keep (by simp only [retFix, hg])
          | seq ro e t xs =>
            obtain ⟨r1, r2⟩ := new_nil hB.rel e t
            have hB1 : Base F φ0 H0 w0 (upd φ H.n ⟨0, 0, 0, true⟩) (H.new (.seq false e t [])) w := ⟨r1, hB.ext.trans r2, hB.lt0⟩
            have hvs : RVs (cx F (upd φ H.n ⟨0, 0, 0, true⟩) (H.new (.seq false e t [])) w) as vs := hv.2.mono r2.le
            obtain ⟨φ1, h1, h2, h3⟩ := retFix_ok ps as _ _ vs hB1 hvs
            have e1 : retFix H' (.slc j :: ps) (.nils :: as) H = (.slc H.n :: (retFix H' ps as (H.new (.seq false e t []))).1, (retFix H' ps as (H.new (.seq false e t []))).2) := by simp only [retFix, hg]
            rw [e1]
            refine ⟨φ1, h1, ⟨?_, h2⟩, r2.le.trans h3⟩
            have h4 : RV1 (cx F (upd φ H.n ⟨0, 0, 0, true⟩) (H.new (.seq false e t [])) w) (.slc H.n) v := by
              have := rv_nils_inv (rv_of_rv1 hv.1)
              subst this
              have := Reps.slc (C := cx F (upd φ H.n ⟨0, 0, 0, true⟩) (H.new (.seq false e t [])) w) (id := H.n) (Nat.lt_succ_self _) Reps.nil
              simpa [RV1, cx, upd_same, RS.sl] using this
            exact h4.mono h3
      | _ => exact keep (by simp only [retFix])
    | _ => exact keep (by simp only [retFix])
theorem ret_ok (hE : E.Ok P) {fn : Func} {res : AV} {H' : Heap} (h : retD E H0.n fn.results.toList res H' T H) (hB : Base F φ0 H0 w0 φ H w) (hT : TRel F φ H w N T a) : ∃ v, (results fn a.tmps).run P w = .ok v w ∧ Post F φ0 H0 w0 ⟨True, True, res, H'⟩ v w := by
  unfold retD at h
  split at h
  · rename_i q as hr
    obtain ⟨hq, hs, h⟩ := h
    obtain ⟨vs, h1, h2, h3⟩ := resD_ok hE hB.rel hT _ q as hr hq
    obtain ⟨φx, hBx, h1, -⟩ := retFix_ok (H' := H') (pats res) as H φ vs hB h1
    obtain ⟨as0, Hx, hfix⟩ : ∃ as0 Hx, retFix H' (pats res) as H = (as0, Hx) := ⟨_, _, rfl⟩
    rw [hfix] at h hBx h1
    simp only at h hBx h1
    split at h
    · rename_i as1 H1 hl
      rw [fI_eq] at h
      obtain ⟨h4, h5⟩ := h
      obtain ⟨l1, l2, l3, l4, l5⟩ := lend_ok _ _ _ _ _ vs hl hBx.rel h1
      have hB1 : Base F φ0 H0 w0 φx H1 w := ⟨l1, hBx.ext.trans (l5 rfl), hBx.lt0⟩
      obtain ⟨g1, g2⟩ := wk_ok hB1 h5
      have g3 := leAs_ok g2 h4 l3
      have hrun : (fn.results.mapM (resRun a.tmps)).run P w = .ok vs.toArray w := by
        rw [Array.mapM_eq_mapM_toList]
        simp [mapM_run fn.results.toList vs h2 h3]
      rw [results_eq]
      simp only [Sem.run_bind, hrun, Result.andThen_ok, Sem.run_pure]
      refine ⟨_, rfl, _, ?_, g1.rel, g1.ext⟩
      have hlen : vs.toArray.size = fn.results.toList.length := by simp [h2]
      cases res with
      | tup l =>
        simp only [shapeOk, Bool.not_eq_true'] at hs
        have hne : ¬ vs.toArray.size = 1 := fun e => by rw [hlen] at e; rw [e] at hs; cases hs
        rw [dif_neg hne]
        exact ⟨vs, rfl, g3⟩
      | _ =>
        have he : vs.toArray.size = 1 := by rw [hlen]; exact Nat.eq_of_beq_eq_true hs
        rw [dif_pos he]
        match vs, he, g3 with
        | [v], _, g3 => exact rv_of_rv1 g3.1
    · exact h.elim
  · exact h.elim
/-- A function is what its contract says. -/
theorem fun_ok (hE : E.Ok P) (hmix : P.follows .mixedOrders = true) {f : FuncId} {fn : Func} {code : Code} (hf : P.funcs[f]? = some fn) (hname : (fn.name == "runtime.NumGoroutine") = false) (hb : fn.body = some code) (c : Con) (ms : List (Nat × Nat))
    (hlt : ∀ x, wfL (c.heap x).n (c.heap x).l = true) (hpure : c.pure = true → ∀ x, c.heap' x = c.heap x ∧ ∀ id k, (c.heap x).get id = some k → k.ro = true) (hN : ∀ x, (c.args x).length ≤ fn.ntmps)
    (hVC : ∀ x, c.pre x → okAs (c.args x) → okH (c.heap x) (c.heap x).n → forceT (argT 0 (c.args x)) fun T0 => forceH (c.heap x) fun H0 => codeD E fn.ntmps (c.heap x).n ms code T0 H0 fun e T H => match e with
      | .exit _ => False
      | _ => retD E (c.heap x).n fn.results.toList (c.res x) (c.heap' x) T H) : c.Ok P f := by
  refine ⟨fun args w => Go.MuLone.run_callFunc_enter hf hname hb args w, fun x id k hk => wfL_get (hlt x) hk, hpure, fun x hpre F φ w vs hR hv => ?_⟩
  have hvl := RVs_length hv
  have hVC := hVC x hpre (okAs_of hv) (okH_of hR _)
  simp only [forceT_eq, forceH_eq] at hVC
  have hNx := hN x
  refine calls_of_wp hf hb ?_
  refine code_ok (N := fn.ntmps) (F := F) (φ0 := φ) (H0 := c.heap x) (w0 := w) hE hmix code _ _ φ w _ _ _ hVC ⟨hR, Ext.refl _ _ _ _, fun id k hk => wfL_get (hlt x) hk⟩ ⟨?_, fun t => ?_, rfl⟩ ?_
  · simp
    omega
  · rw [argT_look (T := [])]
    by_cases ht : t < (c.args x).length
    · rw [if_pos ⟨Nat.zero_le _, by omega⟩, Nat.sub_zero]
      obtain ⟨v, g1, g2⟩ := hv.get t _ (List.getElem?_eq_getElem ht)
      have e1 : (c.args x).getD t .undef = (c.args x)[t] := by rw [List.getD_eq_getElem?_getD, List.getElem?_eq_getElem ht]; rfl
      have e2 : (vs.toArray ++ Array.replicate (fn.ntmps - vs.toArray.size) undef).getD t undef = v := by
        rw [Array.getD_eq_getD_getElem?, Array.getElem?_append_left (by simp; omega)]
        simp [g1]
      rw [e1, e2]
      exact rv_of_rv1 g2
    · rw [if_neg (by omega)]
      trivial
  · intro e T' H' φ' w' a' hk hB hT
    cases e with
    | exit i => exact hk.elim
    | normal =>
      obtain ⟨v, h1, h2⟩ := ret_ok hE hk hB hT
      exact ⟨hT.defers, v, h1, v, rfl, h2⟩
    | ret =>
      obtain ⟨v, h1, h2⟩ := ret_ok hE hk hB hT
      exact ⟨hT.defers, v, h1, v, rfl, h2⟩
end
end Go.Proofs.YtpkidbhpfohopaaDoor
