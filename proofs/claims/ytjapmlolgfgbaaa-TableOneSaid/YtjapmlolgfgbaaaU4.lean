/- Contracts of maps.Clone, maps.Keys and slices.Sorted at this program's maps. No condition. -/
import Derived.Test.YtjapmlolgfgbaaaU3
import Derived.Shelf.SlIterI.Nil
import Derived.Shelf.SortM.Plain
import Derived.Shelf.SortM.SortNone
import Derived.Shelf.SlMaps.Clone
namespace Go.Proofs.Ytjapmlolgfgbaaa
open Go.RowKit Go.Maps Go.Sort Go.Shelf
set_option linter.unusedVariables false
set_option linter.unusedSimpArgs false
def clnA_ren : Go.Shelf.Ren := ⟨fun | 5 => 24 | 7 => 29 | n => n, fun | 23 => 47 | 25 => 3 | 3 => 28 | 4 => 4 | 20 => 20 | n => n, fun | n => n⟩
theorem clnA : Go.Proofs.SlLaysW.n5 Try.prog clnA_ren := {
  mixed := by kernel_rfl
  f5 := ⟨Try.f24.name, by decide, Try.func24.trans (congrArg some (by kernel_rfl))⟩
  f7 := Try.func29.trans (congrArg some (by kernel_rfl))
  t4 := Try.underlying4
  a4 := Try.isAgg4
  z4 := Try.sizeOf4
  v4 := Try.zeroValue4
  t20 := Try.underlying20
  a20 := Try.isAgg20
  z20 := Try.sizeOf20
  v20 := Try.zeroValue20
  t23 := Try.underlying47
  a23 := Try.isAgg47
  z23 := Try.sizeOf47
  v23 := Try.zeroValue47 }
def clnI_ren : Go.Shelf.Ren := ⟨fun | 5 => 25 | 7 => 29 | n => n, fun | 23 => 36 | 25 => 3 | 3 => 3 | 4 => 4 | 20 => 20 | n => n, fun | n => n⟩
theorem clnI : Go.Proofs.SlLaysW.n5 Try.prog clnI_ren := {
  mixed := by kernel_rfl
  f5 := ⟨Try.f25.name, by decide, Try.func25.trans (congrArg some (by kernel_rfl))⟩
  f7 := Try.func29.trans (congrArg some (by kernel_rfl))
  t4 := Try.underlying4
  a4 := Try.isAgg4
  z4 := Try.sizeOf4
  v4 := Try.zeroValue4
  t20 := Try.underlying20
  a20 := Try.isAgg20
  z20 := Try.sizeOf20
  v20 := Try.zeroValue20
  t23 := Try.underlying36
  a23 := Try.isAgg36
  z23 := Try.sizeOf36
  v23 := Try.zeroValue36 }
def keysA_ren : Go.Shelf.Ren := ⟨fun | 7 => 22 | 10 => 28 | n => n, fun | 23 => 47 | 26 => 3 | 3 => 28 | 28 => 53 | 0 => 0 | 27 => 52 | 33 => 59 | 4 => 4 | n => n, fun | n => n⟩
theorem keysA : Go.Proofs.SlLaysZI.n7 Try.prog keysA_ren := {
  mixed := by kernel_rfl
  f7 := ⟨Try.f22.name, by decide, Try.func22.trans (congrArg some (by kernel_rfl))⟩
  f10 := ⟨Try.f28.name, by decide, Try.func28.trans (congrArg some (by kernel_rfl))⟩
  t0 := Try.underlying0
  a0 := Try.isAgg0
  z0 := Try.sizeOf0
  v0 := Try.zeroValue0
  t4 := Try.underlying4
  a4 := Try.isAgg4
  z4 := Try.sizeOf4
  v4 := Try.zeroValue4
  t23 := Try.underlying47
  a23 := Try.isAgg47
  z23 := Try.sizeOf47
  v23 := Try.zeroValue47
  t26 := Try.underlying3
  a26 := Try.isAgg3
  z26 := Try.sizeOf3
  v26 := Try.zeroValue3
  t27 := Try.underlying52
  a27 := Try.isAgg52
  z27 := Try.sizeOf52
  v27 := Try.zeroValue52
  t28 := Try.underlying53
  a28 := Try.isAgg53
  z28 := Try.sizeOf53
  v28 := Try.zeroValue53
  t33 := Try.underlying59
  a33 := Try.isAgg59
  z33 := Try.sizeOf59
  v33 := Try.zeroValue59 }
def sortedA_ren : Go.Shelf.Ren := ⟨fun | 6 => 21 | 8 => 26 | 9 => 27 | 11 => 30 | 13 => 32 | 12 => 31 | 23 => 42 | 24 => 43 | 14 => 33 | 15 => 34 | 16 => 35 | 17 => 36 | 18 => 37 | 19 => 38 | 20 => 39 | 21 => 40 | 22 => 41 | 25 => 44 | 26 => 45 | 27 => 46 | 28 => 47 | 29 => 48 | 30 => 49 | 31 => 50 | n => n, fun | 26 => 3 | 28 => 53 | 24 => 50 | 0 => 0 | 3 => 3 | 37 => 64 | 48 => 75 | 50 => 77 | 4 => 4 | 40 => 67 | 39 => 66 | 45 => 72 | 5 => 5 | 9 => 9 | 51 => 78 | 55 => 82 | 57 => 84 | 58 => 85 | 33 => 59 | n => n, fun | n => n⟩
theorem sortedA : Go.Proofs.SlLaysZI.n6 Try.prog sortedA_ren := {
  mixed := by kernel_rfl
  f6 := ⟨Try.f21.name, by decide, Try.func21.trans (congrArg some (by kernel_rfl))⟩
  f8 := ⟨Try.f26.name, by decide, Try.func26.trans (congrArg some (by kernel_rfl))⟩
  f11 := ⟨Try.f30.name, by decide, Try.func30.trans (congrArg some (by kernel_rfl))⟩
  t0 := Try.underlying0
  a0 := Try.isAgg0
  z0 := Try.sizeOf0
  v0 := Try.zeroValue0
  t24 := Try.underlying50
  a24 := Try.isAgg50
  z24 := Try.sizeOf50
  v24 := Try.zeroValue50
  t26 := Try.underlying3
  a26 := Try.isAgg3
  z26 := Try.sizeOf3
  v26 := Try.zeroValue3
  t28 := Try.underlying53
  a28 := Try.isAgg53
  z28 := Try.sizeOf53
  v28 := Try.zeroValue53
  i26 := by kernel_rfl }
def sortA_ren : Go.Shelf.Ren := ⟨fun | 5 => 27 | 8 => 32 | 7 => 31 | 19 => 42 | 20 => 43 | 10 => 33 | 11 => 34 | 12 => 35 | 13 => 36 | 14 => 37 | 15 => 38 | 16 => 39 | 17 => 40 | 18 => 41 | 30 => 44 | 31 => 45 | 32 => 46 | 33 => 47 | 34 => 48 | 35 => 49 | 40 => 50 | n => n, fun | 23 => 50 | 25 => 3 | 3 => 3 | 32 => 64 | 22 => 50 | 0 => 0 | 44 => 75 | 46 => 77 | 4 => 4 | 36 => 67 | 35 => 66 | 41 => 72 | 5 => 5 | 9 => 9 | 53 => 78 | 57 => 82 | 63 => 84 | 64 => 85 | n => n, fun | n => n⟩
theorem sortA : Go.Proofs.SlLaysM.n5 Try.prog sortA_ren := {
  mixed := by kernel_rfl
  f5 := ⟨Try.f27.name, by decide, Try.func27.trans (congrArg some (by kernel_rfl))⟩
  f7 := ⟨Try.f31.name, by decide, Try.func31.trans (congrArg some (by kernel_rfl))⟩
  f8 := Try.func32.trans (congrArg some (by kernel_rfl))
  f10 := ⟨Try.f33.name, by decide, Try.func33.trans (congrArg some (by kernel_rfl))⟩
  f11 := ⟨Try.f34.name, by decide, Try.func34.trans (congrArg some (by kernel_rfl))⟩
  f12 := ⟨Try.f35.name, by decide, Try.func35.trans (congrArg some (by kernel_rfl))⟩
  f13 := ⟨Try.f36.name, by decide, Try.func36.trans (congrArg some (by kernel_rfl))⟩
  f14 := ⟨Try.f37.name, by decide, Try.func37.trans (congrArg some (by kernel_rfl))⟩
  f15 := ⟨Try.f38.name, by decide, Try.func38.trans (congrArg some (by kernel_rfl))⟩
  f16 := ⟨Try.f39.name, by decide, Try.func39.trans (congrArg some (by kernel_rfl))⟩
  f17 := ⟨Try.f40.name, by decide, Try.func40.trans (congrArg some (by kernel_rfl))⟩
  f18 := ⟨Try.f41.name, by decide, Try.func41.trans (congrArg some (by kernel_rfl))⟩
  f19 := Try.func42.trans (congrArg some (by kernel_rfl))
  f20 := Try.func43.trans (congrArg some (by kernel_rfl))
  f30 := ⟨Try.f44.name, by decide, Try.func44.trans (congrArg some (by kernel_rfl))⟩
  f31 := Try.func45.trans (congrArg some (by kernel_rfl))
  f32 := Try.func46.trans (congrArg some (by kernel_rfl))
  f33 := ⟨Try.f47.name, by decide, Try.func47.trans (congrArg some (by kernel_rfl))⟩
  f34 := ⟨Try.f48.name, by decide, Try.func48.trans (congrArg some (by kernel_rfl))⟩
  f35 := ⟨Try.f49.name, by decide, Try.func49.trans (congrArg some (by kernel_rfl))⟩
  f40 := ⟨Try.f50.name, by decide, Try.func50.trans (congrArg some (by kernel_rfl))⟩
  t0 := Try.underlying0
  a0 := Try.isAgg0
  z0 := Try.sizeOf0
  v0 := Try.zeroValue0
  t3 := Try.underlying3
  a3 := Try.isAgg3
  z3 := Try.sizeOf3
  v3 := Try.zeroValue3
  t4 := Try.underlying4
  a4 := Try.isAgg4
  z4 := Try.sizeOf4
  v4 := Try.zeroValue4
  t5 := Try.underlying5
  a5 := Try.isAgg5
  z5 := Try.sizeOf5
  v5 := Try.zeroValue5
  t9 := Try.underlying9
  a9 := Try.isAgg9
  z9 := Try.sizeOf9
  v9 := Try.zeroValue9
  t22 := Try.underlying50
  a22 := Try.isAgg50
  z22 := Try.sizeOf50
  v22 := Try.zeroValue50
  t23 := Try.underlying50
  a23 := Try.isAgg50
  z23 := Try.sizeOf50
  v23 := Try.zeroValue50
  t25 := Try.underlying3
  a25 := Try.isAgg3
  z25 := Try.sizeOf3
  v25 := Try.zeroValue3
  t32 := Try.underlying64
  a32 := Try.isAgg64
  z32 := Try.sizeOf64
  v32 := Try.zeroValue64
  t35 := Try.underlying66
  a35 := Try.isAgg66
  z35 := Try.sizeOf66
  v35 := Try.zeroValue66
  t36 := Try.underlying67
  a36 := Try.isAgg67
  z36 := Try.sizeOf67
  v36 := Try.zeroValue67
  t41 := Try.underlying72
  a41 := Try.isAgg72
  z41 := Try.sizeOf72
  v41 := Try.zeroValue72
  t44 := Try.underlying75
  a44 := Try.isAgg75
  z44 := Try.sizeOf75
  v44 := Try.zeroValue75
  t46 := Try.underlying77
  a46 := Try.isAgg77
  z46 := Try.sizeOf77
  v46 := Try.zeroValue77
  t53 := Try.underlying78
  a53 := Try.isAgg78
  z53 := Try.sizeOf78
  v53 := Try.zeroValue78
  t57 := Try.underlying82
  a57 := Try.isAgg82
  z57 := Try.sizeOf82
  v57 := Try.zeroValue82
  t63 := Try.underlying84
  a63 := Try.isAgg84
  z63 := Try.sizeOf84
  v63 := Try.zeroValue84
  t64 := Try.underlying85
  a64 := Try.isAgg85
  z64 := Try.sizeOf85
  v64 := Try.zeroValue85 }

section
variable {F : Nat → Prop} {φ : Nat → RS} {H : Heap} {w : World}
theorem below_new (hR : Rel F φ H w) {w' : World} (hb : Below w.heap.size w w') (r : RS) (k : Blk) (hkr : k.ro = false) (hr : r.nil = false → w.heap.size ≤ r.blk)
    (hk : (cx F φ H w).Le (cx F (upd φ H.n r) (H.new k) w') → BRel (cx F (upd φ H.n r) (H.new k) w') r k) : Rel F (upd φ H.n r) (H.new k) w' ∧ Ext F φ H w (upd φ H.n r) (H.new k) w' :=
  Rel.new hR r k hkr hb.size (fun b hb' => hb.block b hb') hr hk hb.os hb.tape hb.output
theorem rv_newh (K : HK) (b : Nat) (k : Blk) {w' : World} : RV (cx F (upd φ H.n ⟨b, 0, 0, false⟩) (H.new k) w') (.hdl K H.n) (K.val b) := by
  have := rv_hdl (C := cx F (upd φ H.n ⟨b, 0, 0, false⟩) (H.new k) w') (k := K) (id := H.n) (Nat.lt_succ_self _)
  rwa [show (cx F (upd φ H.n ⟨b, 0, 0, false⟩) (H.new k) w').φ H.n = ⟨b, 0, 0, false⟩ from upd_same _ _ _] at this
end
theorem int3 : Try.prog.underlying 3 = some (.int .i64) := Try.underlying3
def cClone (ty : Ty) : Con where
  X := List (Int × ty.den)
  args := fun _ => [.hdl .mp 0]
  heap := fun es => ⟨1, [(0, some (.map true ty es))]⟩
  pre := fun _ => True
  res := fun _ => .hdl .mp 1
  heap' := fun es => ⟨2, [(1, some (.map false ty es)), (0, some (.map true ty es))]⟩
  pure := false
  find := fun args H => match args with
    | [.hdl _ id] => match H.get id with
      | some (.map _ u es) => if h : u = ty then some (h ▸ es) else none
      | _ => none
    | _ => none
theorem cClone_of (ty : Ty) {f : Nat} (he : ∀ args w, (callFunc f args).run Try.prog w = .ok (.enter f args) w)
    (hc : ∀ b n D w, w.ownsMap Try.prog 3 RVv b n D → Calls Try.prog f #[.map (some b)] w fun e w' => e = .returned (.map (some w.heap.size)) ∧ w'.ownsMap Try.prog 3 RVv w.heap.size n D ∧ w'.ownsMap Try.prog 3 RVv b n D ∧ Below w.heap.size w w') : (cClone ty).Ok Try.prog f := by
  refine ⟨he, fun x id k h => ?_, fun h => (by cases h), fun es _ F φ w vs hR hv => ?_⟩
  · match id, h with
    | 0, h => exact Nat.zero_lt_one
    | _ + 1, h => cases h
  · match vs, hv with
    | [v], hv =>
      obtain ⟨rfl, -⟩ := rv_hdl_inv (rv_of_rv1 hv.1)
      obtain ⟨hnil, ws, h1, h2⟩ := hR.blk 0 _ rfl
      refine (hc _ _ _ w (h2.owns int3)).mono fun e w' ⟨h3, h4, h5, h6⟩ => ⟨_, h3, ?_⟩
      obtain ⟨r1, r2⟩ := below_new hR h6 ⟨w.heap.size, 0, 0, false⟩ (.map false ty es) rfl (fun _ => Nat.le_refl _) (fun le => ⟨rfl, ws, h1.imp fun _ _ h => h.mono le, _, _, int3, h4⟩)
      exact ⟨_, rv_newh (H := _) _ w.heap.size _, r1, r2⟩
theorem cCloneA_ok : (cClone .atv).Ok Try.prog 24 :=
  cClone_of .atv (Go.MuLone.run_callFunc_enter Try.func24 (by decide) rfl) fun b n D w h => AnyW.maps_Clone_owns clnA 3 RVv b n D w h
theorem cCloneI_ok : (cClone .int).Ok Try.prog 25 :=
  cClone_of .int (Go.MuLone.run_callFunc_enter Try.func25 (by decide) rfl) fun b n D w h => AnyW.maps_Clone_owns clnI 3 RVv b n D w h
abbrev itrK : HK := .itr 28
def cKeys : Con where
  X := List (Int × Atv)
  args := fun _ => [.hdl .mp 0]
  heap := fun es => ⟨1, [(0, some (.map true .atv es))]⟩
  pre := fun _ => True
  res := fun _ => .hdl itrK 1
  heap' := fun es => ⟨2, [(1, some (.obj false [.hdl .mp 0])), (0, some (.map true .atv es))]⟩
  pure := false
  find := fun args H => match args with
    | [.hdl _ id] => match H.get id with
      | some (.map _ .atv es) => some es
      | _ => none
    | _ => none
theorem cKeys_ok : cKeys.Ok Try.prog 22 := by
  refine ⟨Go.MuLone.run_callFunc_enter Try.func22 (by decide) rfl, fun x id k h => ?_, fun h => (by cases h), fun es _ F φ w vs hR hv => ?_⟩
  · match id, h with
    | 0, h => exact Nat.zero_lt_one
    | _ + 1, h => cases h
  · match vs, hv with
    | [v], hv =>
      obtain ⟨rfl, hid⟩ := rv_hdl_inv (rv_of_rv1 hv.1)
      have cK : ∀ mb W, CallsIn Fence.wide 5 Try.prog 22 #[.map mb] W fun e w' => e = .returned (.func (.func 28) #[] #[.pointer (some ⟨W.heap.size, 0, none⟩)]) ∧ w' = W.alloc (.cells #[.map mb] 47) := fun mb W => AnyZI.keys_in keysA Fence.wide 5 trivial rfl mb W
      refine (callsIn_wide.1 (cK (some (φ 0).blk) w)).mono fun e w' ⟨h3, h4⟩ => ⟨_, h3, ?_⟩
      subst h4
      obtain ⟨r1, r2⟩ := new_obj (vs := #[.map (some (φ 0).blk)]) (cs := [.hdl .mp 0]) hR (Reps.hdl hid .nil) 47
      exact ⟨_, rv_newh (H := _) _ w.heap.size _, r1, r2⟩
def cSorted : Con where
  X := List (Int × Atv)
  args := fun _ => [.hdl itrK 0]
  heap := fun es => ⟨2, [(1, some (.map true .atv es)), (0, some (.obj true [.hdl .mp 1]))]⟩
  pre := fun es => es.length ≤ 1000000
  res := fun _ => .slc 2
  heap' := fun es => ⟨3, [(2, some (.seq false 3 .int (es.map (·.1)))), (1, some (.map true .atv es)), (0, some (.obj true [.hdl .mp 1]))]⟩
  pure := false
  find := fun args H => match args with
    | [.hdl _ id] => match H.get id with
      | some (.obj _ [.hdl _ m]) => match H.get m with
        | some (.map _ .atv es) => some es
        | _ => none
      | _ => none
    | _ => none
theorem sortsA (m : Nat) : AnyZI.SortsIn Try.prog sortedA_ren Fence.wide m :=
  ⟨fun blk off cap ss W hH hblk hsz => callsIn_wide.2 (AnyM.slices_Sort_int sortA blk off cap ss W hH hblk hsz),
   fun p cap W => callsIn_wide.2 (AnyM.slices_Sort_int_none sortA p cap W)⟩
theorem keys_sorted {C : Cx} {es : List (Int × Atv)} {vs : List (Int × Value)} (h : All2 (RE C .atv) es vs) (hs : vs.Pairwise (fun p q => p.1 < q.1)) {ss : List Int} (hp : ss.Perm (intKeys (vdat vs))) : ss.mergeSort (fun x y => decide (x ≤ y)) = es.map (·.1) := by
  have e1 : intKeys (vdat vs) = es.map (·.1) := by
    clear hp hs
    simp only [vdat, vdL, intKeys, List.map_map]
    induction h with
    | nil => rfl
    | cons h _ ih => rw [List.map_cons, List.map_cons, ih]; simp [h.key]; rfl
  rw [e1] at hp
  have hso := RE.sorted h hs
  have hle : (es.map (·.1)).Pairwise (fun a b => leI a b = true) := by
    rw [List.pairwise_map]
    exact hso.imp fun {a b} h => by simp [leI]; omega
  have e2 := mergeSort_of_perm_i hp
  have e3 : (es.map (·.1)).mergeSort leI = es.map (·.1) := List.mergeSort_of_pairwise hle
  exact e2.trans e3
theorem reps_keys {C : Cx} {es : List (Int × Atv)} (h : ∀ x ∈ es, (Lit.int .i64 x.1).wf = true) : Reps C ((es.map (·.1)).flatMap (enc .int)) ((es.map (·.1)).map encZ) := by
  induction es with
  | nil => exact .nil
  | cons x xs ih =>
    have hw := h x (List.mem_cons_self ..)
    simp only [Lit.wf, Bool.and_eq_true, decide_eq_true_eq] at hw
    exact Reps.int hw.1 hw.2 (ih fun y hy => h y (List.mem_cons_of_mem _ hy))
theorem rv_news {F : Nat → Prop} {φ : Nat → RS} {H : Heap} {w' : World} (r : RS) (k : Blk) : RV (cx F (upd φ H.n r) (H.new k) w') (.slc H.n) r.sl := by
  have := Reps.slc (C := cx F (upd φ H.n r) (H.new k) w') (id := H.n) (Nat.lt_succ_self _) Reps.nil
  rwa [show (cx F (upd φ H.n r) (H.new k) w').φ H.n = r from upd_same _ _ _] at this
theorem cSorted_ok : cSorted.Ok Try.prog 21 := by
  refine ⟨Go.MuLone.run_callFunc_enter Try.func21 (by decide) rfl, fun x id k h => ?_, fun h => (by cases h), fun (es : List (Int × Atv)) hpre F φ w vs hR hv => ?_⟩
  · match id, h with
    | 0, h => exact Nat.zero_lt_two
    | 1, h => exact Nat.one_lt_two
    | _ + 2, h => cases h
  · match vs, hv with
    | [v], hv =>
      replace hpre : es.length ≤ 1000000 := hpre
      obtain ⟨rfl, hid⟩ := rv_hdl_inv (rv_of_rv1 hv.1)
      obtain ⟨n0, cs, e0, hb0, hr0⟩ := hR.blk 0 _ rfl
      obtain ⟨hnil, ws, h1, h2⟩ := hR.blk 1 _ rfl
      have hcs : cs.toList = [.map (some (φ 1).blk)] := by
        generalize cs.toList = l at hr0
        cases hr0 with
        | hdl a h => rw [h.nil_inv]; rfl
      have hcell : w.cell? ⟨(φ 0).blk, 0, none⟩ = some (.map (some (φ 1).blk)) := by
        have hb1 : w.heap[(φ 0).blk]? = some (.cells cs e0 (0, 0)) := hb0
        rw [blk_cell hb1, ← Array.getElem?_toList, hcs]
        rfl
      have hown := h2.owns int3
      have hlt : (φ 0).blk < w.heap.size := (Array.getElem?_eq_some_iff.1 hb0).1
      have hsz : Maps.size (vdat ws) = es.length := by rw [vdat_size, h1.length]
      have hseq : SeqGives Fence.wide 2 Try.prog 28 #[.pointer (some ⟨(φ 0).blk, 0, none⟩)] encZ (fun ss => ss.Perm (intKeys (vdat ws))) (Maps.size (vdat ws)) w :=
        AnyZI.keys_gives (ρ := keysA_ren) { keysA with } Fence.wide _ trivial rfl (by omega) (φ 0).blk (φ 1).blk _ (vdat ws) _ hlt hcell hown
      have cS := AnyZI.sorted_in sortedA Fence.wide 5 trivial trivial trivial trivial rfl (by omega) (sortsA _) (enters_of Try.func27 (by kernel_rfl) rfl) 28 #[.pointer (some ⟨(φ 0).blk, 0, none⟩)] trivial (enters_of Try.func28 (by kernel_rfl) rfl) _ _ (by rw [hsz]; simp [maxLen]; omega) (by rw [hsz]; omega) _ hseq
      change CallsIn _ _ Try.prog 21 _ _ _ at cS
      refine (callsIn_wide.1 cS).mono fun e w' ⟨v, ss, h3, h4, hrow, hnil2, hb⟩ => ⟨v, h3, ?_⟩
      rw [keys_sorted h1 h2.sorted h4] at hrow
      have hsl : ss.length = (es.map (fun p : Int × Atv => p.1)).length := by
        have := (List.mergeSort_perm ss (fun x y => decide (x ≤ y))).length_eq
        rw [keys_sorted h1 h2.sorted h4] at this
        exact this.symm
      rw [hsl] at hrow
      have hreps : ∀ C : Cx, Reps C ((es.map (fun p : Int × Atv => p.1)).flatMap (enc .int)) ((es.map (fun p : Int × Atv => p.1)).map encZ) := fun C => reps_keys (fun x hx => by
        obtain ⟨v, hv⟩ := RE.all h1 x hx
        exact hv.wf)
      rcases hrow.2 with ⟨hv0, hl0⟩ | ⟨g, cap, cur, hv0, hg, rest⟩
      · subst hv0
        have hes : es.map (fun p : Int × Atv => p.1) = [] := List.eq_nil_of_length_eq_zero hl0
        obtain ⟨r1, r2⟩ := below_new hR hb ⟨0, 0, 0, true⟩ (.seq false 3 .int (es.map (fun p : Int × Atv => p.1))) rfl (fun h => by cases h) (fun le => by
          rw [hes]
          exact ⟨rfl, fun _ => rfl, [], .nil, World.ownsRow_nil _ 0 _ _⟩)
        exact ⟨_, rv_news ⟨0, 0, 0, true⟩ _, r1, r2⟩
      · subst hv0
        obtain ⟨r1, r2⟩ := below_new hR hb ⟨g, (es.map (fun p : Int × Atv => p.1)).length, cap, false⟩ (.seq false 3 .int (es.map (fun p : Int × Atv => p.1))) rfl (fun _ => hg) (fun le => ⟨rfl, fun h => (by cases h), _, hreps _, ownsRow_base hrow⟩)
        exact ⟨_, rv_news ⟨g, (es.map (fun p : Int × Atv => p.1)).length, cap, false⟩ _, r1, r2⟩
end Go.Proofs.Ytjapmlolgfgbaaa
