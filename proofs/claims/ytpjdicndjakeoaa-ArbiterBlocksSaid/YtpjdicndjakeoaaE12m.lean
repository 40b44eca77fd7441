/- The engine: maps: made, read, written. No condition. -/
import Derived.Test.YtpjdicndjakeoaaE12
import Derived.Maps.OwnSet
import Derived.LaidEql
import Derived.Laws.Pointers
namespace Go.Proofs.Ytpjdicndjakeoaa
open Go.RowKit Go.Maps
set_option linter.unusedVariables false
set_option linter.unusedSimpArgs false
section
variable {P : Program} {E : Env} {F : Nat → Prop} {φ : Nat → RS} {H : Heap} {w : World}
theorem mapT_inv (hE : E.Ok P) {t k : Nat} {te : TI} {ty : Ty} (h : mapT E t = some (k, te, ty)) : ∃ e, P.underlying t = some (.map k e) ∧ P.underlying k = some (.int .i64) ∧ TIok P e te := by
  unfold mapT at h
  split at h
  · rename_i i hT
    split at h
    · rename_i k' e hk
      split at h
      · rename_i tk hTk
        split at h
        · rename_i hkk
          split at h
          · rename_i te' hTe
            split at h
            · rename_i ty' hty
              injection h with h
              injection h with h1 h
              injection h with h2 h3
              subst h1 h2 h3
              obtain ⟨d, hd, -, h4⟩ := (hE.T _ _ hT).und
              rw [hk] at h4
              simp only at h4
              obtain ⟨d', hd', -, h5⟩ := (hE.T _ _ hTk).und
              rw [hkk] at h5
              simp only at h5
              subst h4 h5
              exact ⟨e, hd, hd', hE.T _ _ hTe⟩
            · cases h
          · cases h
        · cases h
      · cases h
    · cases h
  · cases h
theorem keyWf {n : Int} (h : IntKind.i64.min ≤ n ∧ n ≤ IntKind.i64.max) : (Lit.int .i64 n).wf = true := by simp only [Lit.wf, h, decide_true, Bool.and_self]
theorem makeMap_ok (hE : E.Ok P) (hR : Rel F φ H w) {t k : Nat} {te : TI} {ty : Ty} (h : mapT E t = some (k, te, ty)) :
    (Instr.makeMap t none).run P w = .ok (.map (some w.heap.size)) (w.alloc (.map #[] 0)) ∧ Post F φ H w ⟨True, True, .hdl .mp H.n, H.new (.map false ty [])⟩ (.map (some w.heap.size)) (w.alloc (.map #[] 0)) := by
  obtain ⟨e, hu, hk, hT⟩ := mapT_inv hE h
  refine ⟨rfl, ?_⟩
  obtain ⟨h1, h2⟩ := Rel.new (φ := φ) (w' := w.alloc (.map #[] 0)) hR ⟨w.heap.size, 0, 0, false⟩ (.map false ty []) rfl (by simp) (fun b hb => Below.heap_alloc w _ b hb) (fun _ => Nat.le_refl _) (fun le => ⟨rfl, [], .nil, P, k, hk, World.ownsMap_made w P k RVv⟩) rfl rfl rfl
  refine ⟨_, ?_, h1, h2⟩
  have := rv_hdl (C := cx F (upd φ H.n ⟨w.heap.size, 0, 0, false⟩) (H.new (.map false ty [])) (w.alloc (.map #[] 0))) (k := .mp) (id := H.n) (Nat.lt_succ_self _)
  simpa [cx, upd_same, HK.val] using this
theorem rx_of {C : Cx} {u : Ty} {y : u.den} {v : Value} (ha : aggV v = u.agg) (h1 : Reps C (enc u y) v.cells.toList) : RX C u y v := by
  unfold RX
  split
  · rename_i hu
    rw [hu] at ha
    cases v <;> simp only [aggV, reduceCtorEq, Bool.false_eq_true] at ha
    rename_i cs
    exact ⟨cs.toList, rfl, h1⟩
  · rename_i hu
    have hu : u.agg = false := by simpa using hu
    rw [hu] at ha
    have : v.cells = #[v] := by cases v <;> first | rfl | (simp [aggV] at ha)
    rw [this] at h1
    exact h1
theorem rx_of_rv {C : Cx} {u : Ty} {x : AV} {bs : List AV} {y : u.den} {v : Value} (hl : leavesOf x = some bs) (ha : isAggA x = u.agg) (hd : dec u bs = some y) (hv : RV C x v) : RX C u y v := by
  refine rx_of ?_ (dec_spec hd (leaves_ok hl hv))
  rw [← ha]
  have hcells := leaves_ok hl hv
  cases x <;> simp only [leavesOf, reduceCtorEq] at hl <;> simp only [RV, RV1] at hv <;> simp only [isAggA]
  case agg cs =>
    obtain ⟨vs, rfl, -⟩ := hv
    rfl
  all_goals
    have := hv.one v (by simp)
    cases v <;> first | rfl | (simp [Value.oneCell'] at this)
theorem rx_ofL {C : Cx} {u : Ty} {y : u.den} {v : Value} {a : AV} (h : ofL u.agg (enc u y) = some a) (hx : RX C u y v) : RV C a v := by
  unfold RX at hx
  split at hx
  · rename_i hu
    rw [hu] at h
    obtain ⟨us, rfl, hr⟩ := hx
    exact ofL_agg h hr
  · rename_i hu
    have hu : u.agg = false := by simpa using hu
    rw [hu] at h
    obtain ⟨v', e, hr⟩ := ofL_one h hx
    injection e with e
    subst e
    exact hr
theorem lookup_ok (hE : E.Ok P) (hR : Rel F φ H w) {t : Nat} {m a : AV} {n : Int} {ok : Bool} {vm : Value} (h : lookupD E H t m n ok = some a) (hm : RV (cx F φ H w) m vm) (hn : IntKind.i64.min ≤ n ∧ n ≤ IntKind.i64.max) :
    ∃ u, (Instr.lookup t vm (.int .i64 n) ok).run P w = .ok u w ∧ RV (cx F φ H w) a u := by
  unfold lookupD at h
  split at h
  · rename_i k te ty hmt
    obtain ⟨e, hu, hk, hT⟩ := mapT_inv hE hmt
    split at h
    · rename_i id
      obtain ⟨rfl, hid⟩ := rv_hdl_inv hm
      split at h
      · rename_i ro u es hg
        rw [Bool.cond_eq_ite] at h
        split at h
        · rename_i hag
          have hag : te.k.agg = u.agg := eq_of_beq hag
          split at h
          · rename_i zz hz
            split at h
            · rename_i v hv
              obtain ⟨hnil, vs, hall, how⟩ := hR.blk _ _ hg
              have ho := how.owns hk
              obtain ⟨j, z, hj, hsz, -, hz1, -, hr⟩ := hT.info
              have hzr : (zeroValue e).run P w = .ok z w := by simp [zeroValue, typeInfo, hj, hz1]
              have hzx : RX (cx F φ H w) u zz z := rx_of ((hT.shape j z hj hz1).trans hag) (dec_spec hz (hr _))
              obtain ⟨g1, g2⟩ := RE.get hall n hzx
              have hkey : keyOf P k (.int .i64 n) = some (.int .i64 n) := keyOf_int_mk hk (keyWf hn)
              have val : ∀ (v' : Value) ps, RVv v' = some ((vdat vs).atKey (.int .i64 n) (.held z), ps) → RV (cx F φ H w) v v' := fun v' ps hv' => by
                rw [vdat_get] at hv'
                simp only [RVv, Option.some.injEq, Prod.mk.injEq, DataW.held.injEq] at hv'
                obtain ⟨rfl, -⟩ := hv'
                exact rx_ofL hv g1
              rw [Bool.cond_eq_ite] at h
              split at h
              · rename_i hok
                subst hok
                rw [Bool.cond_eq_ite] at h
                split at h
                · rename_i hnt
                  injection h with h
                  subst h
                  obtain ⟨v', ps, h1, h2⟩ := World.ownsMap.look_ok ho (int_keyed hk) hu hzr rfl hkey
                  have hvv := val v' ps h2
                  refine ⟨_, h1, [v', .bool (has (vdat vs) (.int .i64 n))], rfl, ?_, ?_, trivial⟩
                  · cases v <;> first | exact hvv | (simp [noTup] at hnt)
                  · rw [vdat_has, g2]
                    exact Reps.bool .nil
                · cases h
              · rename_i hok
                have hok : ok = false := by simpa using hok
                subst hok
                injection h with h
                subst h
                obtain ⟨v', ps, h1, h2⟩ := World.ownsMap.lookup ho (int_keyed hk) hu hzr rfl hkey
                exact ⟨_, h1, val v' ps h2⟩
            · cases h
          · cases h
        · cases h
      · cases h
    · cases h
  · cases h
/-- The map of a block turns. -/
theorem map_turn (hR : Rel F φ H w) {id : Nat} {u : Ty} {es es' : List (Int × u.den)} (hg : H.get id = some (.map false u es)) {w' : World} (ht : w.mapTurned w' (φ id).blk) {vs' : List (Int × Value)} (h1 : All2 (RE (cx F φ H w) u) es' vs') (h2 : OMap w' (φ id).blk es'.length (vdat vs')) :
    Rel F φ (H.put id (some (.map false u es'))) w' ∧ Ext F φ H w φ (H.put id (some (.map false u es'))) w' := by
  obtain ⟨hnil, vs, hall, how⟩ := hR.blk _ _ hg
  have hgr := ht.grown
  exact Rel.upd hR _ hg rfl rfl hnil hgr.size (fun b hb hne => hgr.block b hb (fun e => hne (by injection e))) (fun le => ⟨hnil, vs', h1.imp fun _ _ h => h.mono le, h2⟩) hgr.os hgr.tape hgr.output
theorem mapUpd_ok (hE : E.Ok P) (hR : Rel F φ H w) {t : Nat} {m x : AV} {n : Int} {vm vx : Value} {q : Prop} {H' : Heap} (h : mapUpdD E H t m n x = some (q, H')) (hq : q) (hm : RV (cx F φ H w) m vm) (hn : IntKind.i64.min ≤ n ∧ n ≤ IntKind.i64.max) (hx : RV (cx F φ H w) x vx) :
    ∃ w', (Instr.mapUpdate t vm (.int .i64 n) vx).run P w = .ok () w' ∧ Rel F φ H' w' ∧ Ext F φ H w φ H' w' := by
  unfold mapUpdD at h
  split at h
  · rename_i k te ty hmt
    obtain ⟨e, hu, hk, hT⟩ := mapT_inv hE hmt
    split at h
    · rename_i id
      obtain ⟨rfl, hid⟩ := rv_hdl_inv hm
      split at h
      · rename_i u es hg
        split at h
        · rename_i bs hbs
          rw [Bool.cond_eq_ite] at h
          split at h
          · rename_i hag
            have hag : isAggA x = u.agg := eq_of_beq hag
            split at h
            · rename_i y hy
              simp only [Option.some.injEq, Prod.mk.injEq] at h
              obtain ⟨rfl, rfl⟩ := h
              obtain ⟨hnil, vs, hall, how⟩ := hR.blk _ _ hg
              have ho := how.owns hk
              have hkey : keyOf P k (.int .i64 n) = some (.int .i64 n) := keyOf_int_mk hk (keyWf hn)
              obtain ⟨w', h1, h2, h3⟩ := World.ownsMap.store ho (int_keyed hk) hu (by simpa [maxLen] using hq) hkey (show RVv vx = some (.held vx, []) from rfl)
              have hx' := rx_of_rv hbs hag hy hx
              have hall' := RE.put (k := n) ⟨rfl, keyWf hn, hx'⟩ hall
              rw [vdat_put] at h2
              have h4 := owns_tight h2
              have hl : (vdL (mPut vs n vx)).length = (mPut es n y).length := by rw [← hall'.length]; simp [vdL]
              rw [hl] at h4
              obtain ⟨r1, r2⟩ := map_turn hR hg h3 hall' ⟨P, k, hk, h4⟩
              exact ⟨w', h1, r1, r2⟩
            · cases h
          · cases h
        · cases h
      · cases h
    · cases h
  · cases h
theorem del_ok (hE : E.Ok P) (hR : Rel F φ H w) {t k : Nat} {m : AV} {n : Int} {vm : Value} {o : TypeId} {H' : Heap} (h : delD E H t k m n = some H') (hm : RV (cx F φ H w) m vm) (hn : IntKind.i64.min ≤ n ∧ n ≤ IntKind.i64.max) :
    ∃ w', (Builtin.delete_ #[t, k] o #[vm, .int .i64 n]).run P w = .ok (.tuple #[]) w' ∧ Rel F φ H' w' ∧ Ext F φ H w φ H' w' := by
  unfold delD at h
  split at h
  · rename_i k' te ty hmt
    obtain ⟨e, hu, hk, hT⟩ := mapT_inv hE hmt
    split at h
    · rename_i id
      obtain ⟨rfl, hid⟩ := rv_hdl_inv hm
      split at h
      · rename_i u es hg
        rw [Bool.cond_eq_ite] at h
        split at h
        · rename_i hkk
          have hkk := Nat.eq_of_beq_eq_true hkk
          subst hkk
          injection h with h
          subst h
          obtain ⟨hnil, vs, hall, how⟩ := hR.blk _ _ hg
          have ho := how.owns hk
          have hkey : keyOf P k (.int .i64 n) = some (.int .i64 n) := keyOf_int_mk hk (keyWf hn)
          obtain ⟨w', h1, h2, h3⟩ := World.ownsMap.drop ho (int_keyed hk) hu hkey o
          have hall' := RE.del hall n
          rw [vdat_del] at h2
          have h4 := owns_tight h2
          have hl : (vdL (mDel vs n)).length = (mDel es n).length := by rw [← hall'.length]; simp [vdL]
          rw [hl] at h4
          obtain ⟨r1, r2⟩ := map_turn hR hg h3 hall' ⟨P, k, hk, h4⟩
          exact ⟨w', h1, r1, r2⟩
        · cases h
      · cases h
    · cases h
  · cases h
theorem eq_aa {t e : TypeId} {te : TI} (hd : P.underlying t = some (.pointer e)) (hT : TIok P e te) (h0 : 0 < te.n) {a b : Nat} {ca cb : Array Value} {ta tb : TypeId} (ha : w.heap[a]? = some (.cells ca ta (0, 0))) (hb : w.heap[b]? = some (.cells cb tb (0, 0))) (d : Nat) :
    (Op.equalIn (d + 1) t (.pointer (some ⟨a, 0, none⟩)) (.pointer (some ⟨b, 0, none⟩))).run P w = .ok (Nat.beq a b) w := by
  have hne : ¬ te.n = 0 := by omega
  by_cases e : a = b
  · subst e
    simp [Op.equalIn, run_underlying hd, hT.size, hne, run_sameAddr_same]
  · have h1 : Nat.beq a b = false := by cases h : Nat.beq a b with | false => rfl | true => exact absurd (Nat.eq_of_beq_eq_true h) e
    have h2 := run_sameAddr_other (P := P) (w := w) (a := ⟨a, 0, none⟩) (b := ⟨b, 0, none⟩) (fun h => e (by injection h)) ha hb
    rw [h1]
    simp [Op.equalIn, run_underlying hd, hT.size, hne, h2]
theorem ptr_ok (hE : E.Ok P) (hR : Rel F φ H w) {t e : Nat} {i te : TI} {op : BinOp} {x y : AV} {u v : Value} {b : Bool} {xo yo : Operand} (hT : E.T t = some i) (hk : i.k = .ptr e) (hTe : E.T e = some te) (h0 : 0 < te.n) (h : ptrD H op x y = some b) (hu : RV (cx F φ H w) x u) (hv : RV (cx F φ H w) y v) :
    (do eqGuard op t xo yo u v; binOp op t u v : Sem Value).run P w = .ok (.bool b) w := by
  obtain ⟨d, hd, -, hkk⟩ := (hE.T _ _ hT).und
  rw [hk] at hkk
  simp only at hkk
  subst hkk
  unfold ptrD at h
  split at h
  · rename_i id id'
    obtain ⟨rfl, -⟩ := rv_ptr_inv hu
    obtain ⟨rfl, -⟩ := rv_ptr_inv hv
    split at h
    · rename_i ro cs ro' cs' hg hg'
      obtain ⟨n1, _, _, b1, -⟩ := hR.blk _ _ hg
      obtain ⟨n2, _, _, b2, -⟩ := hR.blk _ _ hg'
      have heq : Nat.beq (φ id).blk (φ id').blk = Nat.beq id id' := by
        by_cases e : id = id'
        · subst e; simp
        · have h1 : ¬ (φ id).blk = (φ id').blk := fun e2 => e (hR.inj _ _ _ _ hg hg' n1 n2 e2)
          have h2 : ∀ a b : Nat, ¬ a = b → Nat.beq a b = false := fun a b h => by cases h' : Nat.beq a b with | false => rfl | true => exact absurd (Nat.eq_of_beq_eq_true h') h
          rw [h2 _ _ e, h2 _ _ h1]
      have he : (Op.equal t (.pointer (some ⟨(φ id).blk, 0, none⟩)) (.pointer (some ⟨(φ id').blk, 0, none⟩))).run P w = .ok (Nat.beq id id') w := by
        rw [← heq]
        exact eq_aa hd (hE.T _ _ hTe) h0 b1 b2 9999
      have hoff : (⟨0, 0, 0, none⟩ : Path).off = 0 := rfl
      split at h
      · injection h with h
        subst h
        rw [eqGuard_at_pointer]
        simp [binOp, cx, hoff, he]
      · injection h with h
        subst h
        rw [eqGuard_at_pointer]
        simp [binOp, cx, hoff, he]
      · cases h
    · cases h
  · cases h
theorem rv_newh (K : HK) (b : Nat) (k : Blk) {w' : World} : RV (cx F (upd φ H.n ⟨b, 0, 0, false⟩) (H.new k) w') (.hdl K H.n) (K.val ⟨b, 0, 0, false⟩) := by
  have := rv_hdl (C := cx F (upd φ H.n ⟨b, 0, 0, false⟩) (H.new k) w') (k := K) (id := H.n) (Nat.lt_succ_self _)
  rwa [show (cx F (upd φ H.n ⟨b, 0, 0, false⟩) (H.new k) w').φ H.n = ⟨b, 0, 0, false⟩ from upd_same _ _ _] at this
theorem ptrsD_ok {C : Cx} {ρ : Operand → AV} {ev : Operand → Value} (hρ : ∀ x, RV C (ρ x) (ev x)) : ∀ (parts : List (Nat × Operand)) (n : Nat) (as : List AV), ptrsD n (parts.map fun (j, x) => (j, ρ x)) = some as →
    Reps C as ((parts.map fun (j, x) => (j, ev x)).map fun x => x.2.cells.toList).flatten ∧ as.length = parts.length ∧ ∀ (j : Nat) v, (parts.map fun (j, x) => (j, ev x))[j]? = some v → v.1 = n + j ∧ v.2.cells.size = 1
  | [], n, as, h => by
    cases h
    exact ⟨.nil, rfl, fun j v hv => by simp at hv⟩
  | (i, x) :: r, n, as, h => by
    rw [List.map_cons] at h
    unfold ptrsD at h
    simp only [Bool.cond_eq_ite] at h
    split at h
    · rename_i hi
      have hi := Nat.eq_of_beq_eq_true hi
      subst hi
      split at h
      · rename_i id p hx
        split at h
        · rename_i as' hr
          cases h
          obtain ⟨h1, h2, h3⟩ := ptrsD_ok hρ r _ as' hr
          have hv := hρ x
          rw [hx] at hv
          obtain ⟨he, hid⟩ := rv_ptr_inv hv
          have hc : (ev x).cells = #[ev x] := by rw [he]; rfl
          refine ⟨?_, by simp [h2], fun j v hj => ?_⟩
          · simp only [List.map_cons, List.flatten_cons, hc]
            rw [he]
            exact Reps.ptr hid h1
          · cases j with
            | zero =>
              simp at hj
              subst hj
              exact ⟨rfl, by simp [hc]⟩
            | succ j =>
              obtain ⟨e1, e2⟩ := h3 j v (by simpa using hj)
              exact ⟨by omega, e2⟩
        · cases h
      · cases h
    · cases h
theorem buildP_ok (hE : E.Ok P) (hR : Rel F φ H w) {t e len : Nat} {i te : TI} {as : List AV} {parts : Array (Nat × Operand)} {ρ : Operand → AV} {ev : Operand → Value} (hρ : ∀ x, RV (cx F φ H w) (ρ x) (ev x)) (hT : E.T t = some i) (hk : i.k = .slice e) (hTe : E.T e = some te) (hn : te.n = 1) (hlen : parts.size = len) (hbig : len ≤ 1000)
    (h : ptrsD 0 (parts.toList.map fun (j, x) => (j, ρ x)) = some as) :
    ∃ v w', (Instr.buildSlice t len (parts.map fun (j, x) => (j, ev x))).run P w = .ok v w' ∧ Post F φ H w ⟨True, True, .hdl (.osl len) H.n, H.new (.obj false as)⟩ v w' := by
  obtain ⟨g1, g2, g3⟩ := ptrsD_ok hρ parts.toList 0 as h
  have hfill := fun (cells : Array Value) (hc : cells.size = len * 1) => fill_all 1 (parts.toList.map fun (j, x) => (j, ev x)) 0 [] cells g3 (by simp) (by simp) (by rw [hc]; simp [hlen])
  simp only [List.nil_append] at hfill
  have hrun : (Instr.buildSlice t len (parts.map fun (j, x) => (j, ev x))).run P w = .ok (.slice (some ⟨w.heap.size, 0, none⟩) len len) (w.alloc (.cells ((parts.toList.map fun (j, x) => (j, ev x)).map fun x => x.2.cells.toList).flatten.toArray e)) := by
    have hf := fun (zero : Array Value) => hfill ((Array.range (len * 1)).map (zero[· % zero.size]!)) (by simp)
    have hpm : (parts.map fun (j, x) => (j, ev x)).toList = parts.toList.map fun (j, x) => (j, ev x) := by simp
    simp only [Instr.buildSlice, Sem.run_bind, run_underlying (und_slice hE hT hk), Result.andThen_ok, (hE.T _ _ hTe).size, hn]
    rw [if_neg (by omega), hpm]
    obtain ⟨zv2, hz2, -⟩ := (hE.T _ _ hTe).zeroV (w := w)
    rw [Sem.run_ite]
    split
    · simp only [Sem.run_bind, Sem.run_pure, Result.andThen_ok, hf]
      rfl
    · simp only [Sem.run_bind, Sem.run_pure, Result.andThen_ok, hz2, hf]
      rfl
  obtain ⟨r1, r2⟩ := new_obj hR (vs := ((parts.toList.map fun (j, x) => (j, ev x)).map fun x => x.2.cells.toList).flatten.toArray) (cs := as) (by simpa using g1) e
  exact ⟨_, _, hrun, _, rv_newh (.osl len) w.heap.size _, r1, r2⟩
end
end Go.Proofs.Ytpjdicndjakeoaa
