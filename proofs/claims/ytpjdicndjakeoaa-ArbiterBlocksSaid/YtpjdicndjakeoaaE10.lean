/- The engine: the operations' proofs, third part. No condition. -/
import Derived.Test.YtpjdicndjakeoaaE9
namespace Go.Proofs.Ytpjdicndjakeoaa
open Go.RowKit
set_option linter.unusedVariables false
set_option linter.unusedSimpArgs false
section
variable {P : Program} {E : Env} {F : Nat → Prop} {φ : Nat → RS} {H : Heap} {w : World}
theorem und_slice (hE : E.Ok P) {t e : Nat} {i : TI} (hT : E.T t = some i) (hk : i.k = .slice e) : P.underlying t = some (.slice e) := by
  obtain ⟨d, hd, -, hkk⟩ := (hE.T _ _ hT).und
  rw [hk] at hkk
  rw [hd, hkk]
theorem und_struct (hE : E.Ok P) {t : Nat} {fs : List (Nat × Nat)} {i : TI} (hT : E.T t = some i) (hk : i.k = .struct fs) : ∃ F, P.underlying t = some (.struct F) ∧ F.toList.map (fun f => (f.offset, f.type)) = fs := by
  obtain ⟨d, hd, -, hkk⟩ := (hE.T _ _ hT).und
  rw [hk] at hkk
  obtain ⟨F, rfl, hF⟩ := hkk
  exact ⟨F, hd, hF⟩
theorem und_array (hE : E.Ok P) {t n e : Nat} {i : TI} (hT : E.T t = some i) (hk : i.k = .array n e) : P.underlying t = some (.array n e) := by
  obtain ⟨d, hd, -, hkk⟩ := (hE.T _ _ hT).und
  rw [hk] at hkk
  rw [hd, hkk]
theorem slc_post {t e : Nat} {ty : Ty} {xs : List ty.den} {H' : Heap} {w' : World} {r : RS} {p q : Prop} (h1 : Rel F (upd φ H'.n r) (H'.new (.seq false e ty xs)) w') (h2 : Ext F φ H w (upd φ H'.n r) (H'.new (.seq false e ty xs)) w') {v : Value} (hv : v = r.sl) : Post F φ H w ⟨p, q, .slc H'.n, H'.new (.seq false e ty xs)⟩ v w' := by
  refine ⟨_, ?_, h1, h2⟩
  have := Reps.slc (C := cx F (upd φ H'.n r) (H'.new (.seq false e ty xs)) w') (id := H'.n) (Nat.lt_succ_self _) Reps.nil
  subst hv
  simpa [RV, RV1, cx, upd_same] using this
theorem make_ok (hE : E.Ok P) (hR : Rel F φ H w) {t e : Nat} {i te : TI} {ty : Ty} {z : ty.den} {k k' : IntKind} {n m : Int} (hT : E.T t = some i) (hk : i.k = .slice e) (hTe : E.T e = some te) (hz : dec ty te.zero = some z) (hn : te.n = ty.sz) (h0 : 0 < ty.sz)
    (hneed : (m = n ∧ 0 ≤ n) ∧ n * te.bytes ≤ 140737488355328 ∧ n ≤ 9223372036854775807) : ∃ v w', (Instr.makeSlice t (.int k n) (.int k' m)).run P w = .ok v w' ∧ Post F φ H w ⟨(m = n ∧ 0 ≤ n) ∧ n * te.bytes ≤ 140737488355328 ∧ n ≤ 9223372036854775807, True, .slc H.n, H.new (.seq false e ty (List.replicate n.toNat z))⟩ v w' := by
  obtain ⟨⟨rfl, hp⟩, h1, h2⟩ := hneed
  obtain ⟨n', rfl⟩ : ∃ n' : Nat, m = n' := ⟨m.toNat, by omega⟩
  obtain ⟨j, zv, hj, hjn, hjb, hzv, hzs, hzr⟩ := (hE.T _ _ hTe).info
  have hb : te.bytes * n' ≤ 281474976710656 := by
    have : ((n' * te.bytes : Nat) : Int) ≤ 140737488355328 := by rw [Int.natCast_mul]; exact h1
    rw [Nat.mul_comm]; omega
  obtain ⟨w', r1, r2, r3⟩ := run_make_full (P := P) w w.heap.size t e j zv ty.sz (und_slice hE hT hk) hj hzv (by rw [hjn, hn]) k k' n' (by rw [hjb]; exact hb) (by simp only [maxLen]; omega) (Nat.le_refl _)
  refine ⟨_, w', r1, ?_⟩
  have hzl : zv.cells.toList.length = ty.sz := by rw [Array.length_toList, hzs, hn]
  have e1 : (madeCells zv.cells (n' * ty.sz)).toList = (List.replicate n' zv.cells.toList).flatten := by
    rw [← madeCells_flat _ _ (by omega), hzl, Array.toArray_toList]
  rw [e1] at r2
  have hrep : Reps (cx F φ H w) ((List.replicate n' z).flatMap (enc ty)) (List.replicate n' zv.cells.toList).flatten := reps_replicate (dec_spec hz (hzr _)) n'
  simp only [Int.toNat_natCast]
  obtain ⟨s1, s2⟩ := new_seq hR (xs := List.replicate n' z) (by simp) r3 hrep (Nat.le_refl _) (ownsRow_base r2)
  exact slc_post (t := t) s1 s2 rfl
theorem fill_step (place : Nat → Option (Nat × Nat)) (cells : Array Value) (i off size : Nat) (v : Value) (rest : List (Nat × Value)) (hp : place i = some (off, size)) (hs : v.cells.size = size) (hfit : off + v.cells.size ≤ cells.size) :
    Instr.fill place cells ((i, v) :: rest) = Instr.fill place (spl cells.toList off v.cells.toList).toArray rest := by
  have hc : ¬ (v.cells.size ≠ size || off + v.cells.size > cells.size) = true := by simp [hs]; omega
  simp only [Instr.fill, hp]
  rw [if_neg hc]
  congr 1
  have key : ∀ (us : List Value) (k : Nat) (cs : Array Value), off + k + us.length ≤ cs.size → ((us.zipIdx k).foldl (fun cs (x : Value × Nat) => cs.setIfInBounds (off + x.2) x.1) cs).toList = spl cs.toList (off + k) us := by
    intro us
    induction us with
    | nil => intro k cs h; simp [spl]
    | cons u us ih =>
      intro k cs h
      rw [List.zipIdx_cons, List.foldl_cons, ih (k + 1) _ (by simp at h ⊢; omega)]
      simp only [List.length_cons] at h
      apply List.ext_getElem?
      intro j
      have hcl : cs.toList.length = cs.size := Array.length_toList
      rw [spl_get (cs.setIfInBounds (off + k) u).toList (off + (k + 1)) us (by rw [Array.toList_setIfInBounds, List.length_set]; omega), spl_get cs.toList (off + k) (u :: us) (by rw [List.length_cons]; omega)]
      simp only [Array.toList_setIfInBounds, List.getElem?_set, List.length_cons, Array.length_toList]
      by_cases h1 : j < off + k
      · rw [if_pos (by omega), if_pos h1, if_neg (by omega)]
      · by_cases h2 : j = off + k
        · subst h2
          rw [if_pos (show off + k < off + (k + 1) from by omega), if_neg (Nat.lt_irrefl _), if_pos (show off + k < off + k + (us.length + 1) from by omega)]
          simp
          omega
        · rw [if_neg (by omega), if_neg h1]
          by_cases h3 : j < off + k + (us.length + 1)
          · rw [if_pos (by omega), if_pos h3, show j - (off + k) = (j - (off + (k + 1))) + 1 from by omega, List.getElem?_cons_succ]
          · rw [if_neg (by omega), if_neg h3, if_neg (by omega)]
  have := key v.cells.toList 0 cells (by simpa using hfit)
  apply Array.ext'
  rw [← Array.foldl_toList]
  simpa [Array.toList_zipIdx] using this
theorem build_ok (hE : E.Ok P) {C : Cx} {fs : List (Nat × Nat)} {F : Array Field} (hF : F.toList.map (fun f => (f.offset, f.type)) = fs) (pl : Array (Nat × Nat)) (hpl : ∀ (j off ft : Nat) (ti : TI), fs[j]? = some (off, ft) → E.T ft = some ti → pl[j]? = some (off, ti.n)) :
    ∀ (parts : List (Nat × AV)) (vparts : List (Nat × Value)) (as cs : List AV) (cells : Array Value), fillD E fs as parts = some cs → parts.map (·.1) = vparts.map (·.1) → (∀ (j : Nat) a v, parts[j]? = some a → vparts[j]? = some v → RV C a.2 v.2) → Reps C as cells.toList →
      ∃ out, Instr.fill (pl[·]?) cells vparts = some out ∧ Reps C cs out.toList := by
  intro parts
  induction parts with
  | nil =>
    intro vparts as cs cells h hm hv hr
    cases vparts with
    | nil => cases h; exact ⟨cells, rfl, hr⟩
    | cons _ _ => simp at hm
  | cons a parts ih =>
    intro vparts as cs cells h hm hv hr
    obtain ⟨i, a⟩ := a
    cases vparts with
    | nil => simp at hm
    | cons v vparts =>
      obtain ⟨i', v⟩ := v
      simp only [List.map_cons, List.cons.injEq] at hm
      obtain ⟨rfl, hm⟩ := hm
      rw [fillD] at h
      split at h
      · rename_i off ft hf
        split at h
        · rename_i ti hti
          split at h
          · rename_i bs hbs
            rw [Bool.cond_eq_ite] at h
            split at h
            · rename_i hsz
              split at h
              · rename_i ds hds
                have hv0 := hv 0 _ _ rfl rfl
                have hrb := leaves_ok hbs hv0
                obtain ⟨h1, h2, -⟩ := putC_spec hds hr hrb
                have hl : v.cells.size = ti.n := by rw [← Array.length_toList, hrb.length]; exact Nat.eq_of_beq_eq_true hsz
                simp only [Array.length_toList] at h2
                rw [fill_step (pl[·]?) cells i off ti.n v vparts (hpl i off ft ti hf hti) hl h2]
                exact ih vparts ds cs _ h hm (fun j a v ha hv' => hv (j + 1) a v ha hv') (by simpa using h1)
              · cases h
            · cases h
          · cases h
        · cases h
      · cases h
theorem places_ok (hE : E.Ok P) : ∀ (F : List Field), (F.map (fun f => (f.offset, f.type))).all (fun x => (E.T x.2).isSome) = true → ∃ pl : List (Nat × Nat), F.mapM (fun f => (P.info? f.type).map fun i => (f.offset, i.size)) = some pl ∧ ∀ (j off ft : Nat) (ti : TI), (F.map (fun f => (f.offset, f.type)))[j]? = some (off, ft) → E.T ft = some ti → pl[j]? = some (off, ti.n)
  | [], _ => ⟨[], rfl, fun j off ft ti h => by simp at h⟩
  | f :: F, h => by
    simp only [List.map_cons, List.all_cons, Bool.and_eq_true] at h
    obtain ⟨pl, h1, h2⟩ := places_ok hE F h.2
    obtain ⟨ti, hti⟩ := Option.isSome_iff_exists.1 h.1
    obtain ⟨j, z, hj, hn, -⟩ := (hE.T _ _ hti).info
    refine ⟨(f.offset, j.size) :: pl, by rw [List.mapM_cons, hj, h1]; rfl, fun k off ft ti' hk hti' => ?_⟩
    cases k with
    | zero =>
      simp at hk
      obtain ⟨rfl, rfl⟩ := hk
      rw [hti] at hti'
      injection hti' with hti'
      subst hti'
      simp [hn]
    | succ k => simpa using h2 k off ft ti' (by simpa using hk) hti'
theorem buildS_ok (hE : E.Ok P) {C : Cx} {t : Nat} {i : TI} {fs : List (Nat × Nat)} {parts : Array (Nat × Operand)} {ρ : Operand → AV} {ev : Operand → Value} (hρ : ∀ x, RV C (ρ x) (ev x)) {cs : List AV} (hT : E.T t = some i) (hk : i.k = .struct fs) (hall : fs.all (fun x => (E.T x.2).isSome) = true) (h : fillD E fs i.zero (parts.toList.map fun (j, x) => (j, ρ x)) = some cs) :
    ∃ v, (Instr.build t (parts.map fun (j, x) => (j, ev x))).run P w = .ok v w ∧ RV C (.agg cs) v := by
  obtain ⟨F, hu, hF⟩ := und_struct hE hT hk
  subst hF
  obtain ⟨pl, hpl, hpl2⟩ := places_ok hE F.toList hall
  obtain ⟨j, z, hj, hjn, hjb, hz, hzs, hzr⟩ := (hE.T _ _ hT).info
  obtain ⟨out, ho, hr⟩ := build_ok hE (C := C) (F := F) rfl pl.toArray (fun j off ft ti h1 h2 => by simpa using hpl2 j off ft ti h1 h2) _ (parts.toList.map fun (j, x) => (j, ev x)) _ _ z.cells h (by simp [Function.comp_def]) (fun j a v ha hv => by
      simp only [List.getElem?_map, Option.map_eq_some_iff] at ha hv
      obtain ⟨x, hx, rfl⟩ := ha
      obtain ⟨y, hy, rfl⟩ := hv
      rw [hx] at hy
      injection hy with hy
      subst hy
      exact hρ _) (hzr C)
  refine ⟨.agg out, run_build w t _ out ?_, out.toList, rfl, hr⟩
  unfold Program.built
  simp only [hj, hu, hz, hpl]
  simpa using ho
/-! ### a list's literal -/
theorem elemsD_ok {ty : Ty} : ∀ (parts : List (Nat × AV)) (vparts : List (Nat × Value)) (n : Nat) (H : Heap) (xs : List ty.den) (H' : Heap), elemsD ty H n parts = some (xs, H') → Rel F φ H w → parts.map (·.1) = vparts.map (·.1) → (∀ (j : Nat) a v, parts[j]? = some a → vparts[j]? = some v → RV (cx F φ H w) a.2 v.2) →
    Rel F φ H' w ∧ Ext F φ H w φ H' w ∧ xs.length = parts.length ∧ Reps (cx F φ H' w) (xs.flatMap (enc ty)) (vparts.map fun x => x.2.cells.toList).flatten ∧ (∀ (j : Nat) v, vparts[j]? = some v → v.1 = n + j ∧ v.2.cells.size = ty.sz) := by
  intro parts
  induction parts with
  | nil =>
    intro vparts n H xs H' h hR hm hv
    cases vparts with
    | cons _ _ => simp at hm
    | nil => cases h; exact ⟨hR, Ext.refl _ _ _ _, rfl, .nil, fun j v hj => by simp at hj⟩
  | cons a parts ih =>
    intro vparts n H xs H' h hR hm hv
    obtain ⟨i, a⟩ := a
    cases vparts with
    | nil => simp at hm
    | cons v vparts =>
      obtain ⟨i', v⟩ := v
      simp only [List.map_cons, List.cons.injEq] at hm
      obtain ⟨rfl, hm⟩ := hm
      rw [elemsD, Bool.cond_eq_ite] at h
      split at h
      · rename_i hin
        have hin := Nat.eq_of_beq_eq_true hin
        subst hin
        split at h
        · rename_i bs hbs
          have hrb := leaves_ok hbs (hv 0 _ _ rfl rfl)
          obtain ⟨f1, f2, f3⟩ := frzL_ok bs H _ hR hrb
          cases hf : frzL H bs with
          | mk bs' H1 =>
            rw [hf] at f1 f2 f3
            simp only [hf] at h
            split at h
            · rename_i x hx
              split at h
              · rename_i ys H2 hel
                cases h
                have hd := dec_spec hx f3
                obtain ⟨g1, g2, g3, g4, g5⟩ := ih vparts (i + 1) H1 ys H' hel f1 hm (fun j a v ha hv' => (hv (j + 1) a v ha hv').mono f2.le)
                refine ⟨g1, f2.trans g2, by simp [g3], ?_, fun j u hu => ?_⟩
                · simp only [List.flatMap_cons, List.map_cons, List.flatten_cons]
                  exact Reps.append (hd.mono g2.le) g4
                · cases j with
                  | zero =>
                    simp at hu
                    subst hu
                    exact ⟨rfl, by rw [← Array.length_toList, hd.length, enc_cells]⟩
                  | succ j =>
                    obtain ⟨e1, e2⟩ := g5 j u (by simpa using hu)
                    exact ⟨by rw [e1]; omega, e2⟩
              · cases h
            · cases h
        · cases h
      · cases h
theorem fill_all (s : Nat) : ∀ (vparts : List (Nat × Value)) (n : Nat) (pre : List Value) (cells : Array Value), (∀ (j : Nat) v, vparts[j]? = some v → v.1 = n + j ∧ v.2.cells.size = s) → pre.length = n * s → cells.toList.take (n * s) = pre → cells.size = (n + vparts.length) * s →
    Instr.fill (fun i => some (i * s, s)) cells vparts = some (pre ++ (vparts.map fun x => x.2.cells.toList).flatten).toArray
  | [], n, pre, cells, _, hl, ht, hs => by
    simp only [Instr.fill, List.map_nil, List.flatten_nil, List.append_nil]
    congr 1
    apply Array.ext'
    rw [List.toList_toArray, ← ht, List.take_of_length_le (by rw [Array.length_toList, hs]; simp)]
  | (i, v) :: vparts, n, pre, cells, h, hl, ht, hs => by
    obtain ⟨h1, h2⟩ := h 0 _ rfl
    simp only [Nat.add_zero] at h1
    subst h1
    simp only at h2
    have hle : i * s + s ≤ cells.size := by rw [hs, List.length_cons, show i + (vparts.length + 1) = (i + 1) + vparts.length from by omega, Nat.add_mul, Nat.succ_mul]; omega
    rw [fill_step _ cells i (i * s) s v vparts rfl h2 (by omega)]
    have hvl : v.cells.toList.length = s := by rw [Array.length_toList, h2]
    have hcl : cells.toList.length = cells.size := Array.length_toList
    rw [fill_all s vparts (i + 1) (pre ++ v.cells.toList) _ (fun j u hu => by obtain ⟨e1, e2⟩ := h (j + 1) u (by simpa using hu); exact ⟨by rw [e1]; omega, e2⟩)
      (by rw [List.length_append, hl, hvl, Nat.succ_mul]) (by
        rw [List.toList_toArray, spl_take cells.toList (i * s) ((i + 1) * s) _ (by rw [hvl, Nat.succ_mul]; omega) (by rw [Nat.succ_mul]; omega)]
        unfold spl
        rw [List.take_take, Nat.min_eq_left (by rw [Nat.succ_mul]; omega), ht, List.drop_of_length_le (by rw [List.length_take, hvl, Nat.succ_mul]; omega), List.append_nil])
      (by rw [List.size_toArray, spl_length _ _ _ (by omega), hcl, hs, List.length_cons]; congr 1; omega)]
    simp [List.append_assoc]
theorem buildL_ok (hE : E.Ok P) (hR : Rel F φ H w) {t e len : Nat} {i te : TI} {ty : Ty} {xs : List ty.den} {H' : Heap} {parts : Array (Nat × Operand)} {ρ : Operand → AV} {ev : Operand → Value} (hρ : ∀ x, RV (cx F φ H w) (ρ x) (ev x)) (hT : E.T t = some i) (hk : i.k = .slice e) (hTe : E.T e = some te) (hn : te.n = ty.sz) (h0 : 0 < ty.sz) (hlen : parts.size = len) (hbig : len * ty.sz ≤ 16777216)
    (h : elemsD ty H 0 (parts.toList.map fun (j, x) => (j, ρ x)) = some (xs, H')) :
    ∃ v w', (Instr.buildSlice t len (parts.map fun (j, x) => (j, ev x))).run P w = .ok v w' ∧ Post F φ H w ⟨True, True, .slc H'.n, H'.new (.seq false e ty xs)⟩ v w' := by
  obtain ⟨j, zv, hj, hjn, hjb, hzv, hzs, hzr⟩ := (hE.T _ _ hTe).info
  obtain ⟨g1, g2, g3, g4, g5⟩ := elemsD_ok _ (parts.toList.map fun (j, x) => (j, ev x)) 0 H xs H' h hR (by simp [Function.comp_def]) (fun j a v ha hv => by
      simp only [List.getElem?_map, Option.map_eq_some_iff] at ha hv
      obtain ⟨x, hx, rfl⟩ := ha
      obtain ⟨y, hy, rfl⟩ := hv
      rw [hx] at hy
      injection hy with hy
      subst hy
      exact hρ _)
  have hxl : xs.length = len := by rw [g3]; simpa using hlen
  have hfill := fun (cells : Array Value) (hc : cells.size = len * ty.sz) => fill_all ty.sz (parts.toList.map fun (j, x) => (j, ev x)) 0 [] cells g5 (by simp) (by simp) (by rw [hc]; simp [hlen])
  simp only [List.nil_append] at hfill
  have hus : ((parts.toList.map fun (j, x) => (j, ev x)).map fun x => x.2.cells.toList).flatten.length = len * ty.sz := by rw [g4.length, flat_cells, hxl]
  have hrun : (Instr.buildSlice t len (parts.map fun (j, x) => (j, ev x))).run P w = .ok (.slice (some ⟨w.heap.size, 0, none⟩) len len) (w.alloc (.cells ((parts.toList.map fun (j, x) => (j, ev x)).map fun x => x.2.cells.toList).flatten.toArray e)) := by
    have hf := fun (zero : Array Value) => hfill ((Array.range (len * ty.sz)).map (zero[· % zero.size]!)) (by simp)
    have hpm : (parts.map fun (j, x) => (j, ev x)).toList = parts.toList.map fun (j, x) => (j, ev x) := by simp
    simp only [Instr.buildSlice, Sem.run_bind, run_underlying (und_slice hE hT hk), Result.andThen_ok, (hE.T _ _ hTe).size, hn]
    rw [if_neg (by omega), hpm]
    obtain ⟨zv2, hz2, -⟩ := (hE.T _ _ hTe).zeroV (w := w)
    rw [Sem.run_ite]
    split
    · simp only [Sem.run_bind, Sem.run_pure, Result.andThen_ok, hf]
      rfl
    · simp only [Sem.run_bind, Sem.run_pure, Result.andThen_ok, hz2, hf]
      rfl
  refine ⟨_, _, hrun, ?_⟩
  have hown := World.ownsRow_lit (base := w.heap.size) (e := e) (size := ty.sz) w ((parts.toList.map fun (j, x) => (j, ev x)).map fun x => x.2.cells.toList).flatten.toArray len (Nat.le_refl _) (by simp only [maxLen]; have := Nat.le_mul_of_pos_right len h0; omega) (by rw [List.size_toArray, hus])
  rw [List.toList_toArray] at hown
  obtain ⟨s1, s2⟩ := new_seq g1 (xs := xs) hxl.symm (World.grownBy_alloc w _ none) g4 (Nat.le_refl _) (ownsRow_base hown)
  exact slc_post (t := t) s1 (g2.trans s2) rfl
end
end Go.Proofs.Ytpjdicndjakeoaa
