/- Merged. -/
import Derived.Shelf.SlGeneric
import Derived.Shelf.SlIterI.Nil
import Derived.Shelf.SortM.Plain
import Derived.Shelf.SortM.SortNone
import Derived.Ground.GgzProg
import Derived.Ground.SlgmProg
import Derived.Shelf.Spec.SlicesGrow
import Derived.Ground.Names8Prog
import Derived.Test.YthcfkplfmjcmoaaGreatDoorProg
import Derived.Test.YthcfkplfmjcmoaaGreatDoorQ23
import Derived.Test.YthcfkplfmjcmoaaGreatDoorQ17
namespace Go.Proofs
open Go.Shelf
def Tryz.keysA_ren : Go.Shelf.Ren := ⟨fun | 7 => 295 | 10 => 303 | n => n, fun | 23 => 280 | 26 => 3 | 3 => 4 | 28 => 288 | 0 => 0 | 27 => 287 | 33 => 158 | 4 => 4 | n => n, fun | n => n⟩
theorem Tryz.keysA : Go.Proofs.SlLaysZI.n7 Tryz.prog Tryz.keysA_ren := {
 mixed := by kernel_rfl
 f7 := ⟨Tryz.f295.name, by decide, Tryz.func295.trans (congrArg some (by kernel_rfl))⟩
 f10 := ⟨Tryz.f303.name, by decide, Tryz.func303.trans (congrArg some (by kernel_rfl))⟩
 t0 := Tryz.underlying0
 a0 := Tryz.isAgg0
 z0 := Tryz.sizeOf0
 v0 := Tryz.zeroValue0
 t4 := Tryz.underlying4
 a4 := Tryz.isAgg4
 z4 := Tryz.sizeOf4
 v4 := Tryz.zeroValue4
 t23 := Tryz.underlying280
 a23 := Tryz.isAgg280
 z23 := Tryz.sizeOf280
 v23 := Tryz.zeroValue280
 t26 := Tryz.underlying3
 a26 := Tryz.isAgg3
 z26 := Tryz.sizeOf3
 v26 := Tryz.zeroValue3
 t27 := Tryz.underlying287
 a27 := Tryz.isAgg287
 z27 := Tryz.sizeOf287
 v27 := Tryz.zeroValue287
 t28 := Tryz.underlying288
 a28 := Tryz.isAgg288
 z28 := Tryz.sizeOf288
 v28 := Tryz.zeroValue288
 t33 := Tryz.underlying158
 a33 := Tryz.isAgg158
 z33 := Tryz.sizeOf158
 v33 := Tryz.zeroValue158 }
def Tryz.sortedA_ren : Go.Shelf.Ren := ⟨fun | 6 => 294 | 8 => 301 | 9 => 302 | 11 => 306 | 13 => 308 | 12 => 307 | 23 => 320 | 24 => 321 | 14 => 311 | 15 => 312 | 16 => 313 | 17 => 314 | 18 => 315 | 19 => 316 | 20 => 317 | 21 => 318 | 22 => 319 | 25 => 322 | 26 => 323 | 27 => 324 | 28 => 325 | 29 => 326 | 30 => 291 | 31 => 327 | n => n, fun | 26 => 3 | 28 => 288 | 24 => 24 | 0 => 0 | 3 => 3 | 37 => 207 | 48 => 274 | 50 => 277 | 4 => 4 | 40 => 300 | 39 => 299 | 45 => 133 | 5 => 5 | 9 => 9 | 51 => 307 | 55 => 311 | 57 => 313 | 58 => 195 | 33 => 158 | n => n, fun | n => n⟩
theorem Tryz.sortedA : Go.Proofs.SlLaysZI.n6 Tryz.prog Tryz.sortedA_ren := {
 mixed := by kernel_rfl
 f6 := ⟨Tryz.f294.name, by decide, Tryz.func294.trans (congrArg some (by kernel_rfl))⟩
 f8 := ⟨Tryz.f301.name, by decide, Tryz.func301.trans (congrArg some (by kernel_rfl))⟩
 f11 := ⟨Tryz.f306.name, by decide, Tryz.func306.trans (congrArg some (by kernel_rfl))⟩
 t0 := Tryz.underlying0
 a0 := Tryz.isAgg0
 z0 := Tryz.sizeOf0
 v0 := Tryz.zeroValue0
 t24 := Tryz.underlying24
 a24 := Tryz.isAgg24
 z24 := Tryz.sizeOf24
 v24 := Tryz.zeroValue24
 t26 := Tryz.underlying3
 a26 := Tryz.isAgg3
 z26 := Tryz.sizeOf3
 v26 := Tryz.zeroValue3
 t28 := Tryz.underlying288
 a28 := Tryz.isAgg288
 z28 := Tryz.sizeOf288
 v28 := Tryz.zeroValue288
 i26 := by kernel_rfl }
def Tryz.sortA_ren : Go.Shelf.Ren := ⟨fun | 5 => 302 | 8 => 308 | 7 => 307 | 19 => 320 | 20 => 321 | 10 => 311 | 11 => 312 | 12 => 313 | 13 => 314 | 14 => 315 | 15 => 316 | 16 => 317 | 17 => 318 | 18 => 319 | 30 => 322 | 31 => 323 | 32 => 324 | 33 => 325 | 34 => 326 | 35 => 291 | 40 => 327 | n => n, fun | 23 => 24 | 25 => 3 | 3 => 3 | 32 => 207 | 22 => 24 | 0 => 0 | 44 => 274 | 46 => 277 | 4 => 4 | 36 => 300 | 35 => 299 | 41 => 133 | 5 => 5 | 9 => 9 | 53 => 307 | 57 => 311 | 63 => 313 | 64 => 195 | n => n, fun | n => n⟩
theorem Tryz.sortA : Go.Proofs.SlLaysM.n5 Tryz.prog Tryz.sortA_ren := {
 mixed := by kernel_rfl
 f5 := ⟨Tryz.f302.name, by decide, Tryz.func302.trans (congrArg some (by kernel_rfl))⟩
 f7 := ⟨Tryz.f307.name, by decide, Tryz.func307.trans (congrArg some (by kernel_rfl))⟩
 f8 := Tryz.func308.trans (congrArg some (by kernel_rfl))
 f10 := ⟨Tryz.f311.name, by decide, Tryz.func311.trans (congrArg some (by kernel_rfl))⟩
 f11 := ⟨Tryz.f312.name, by decide, Tryz.func312.trans (congrArg some (by kernel_rfl))⟩
 f12 := ⟨Tryz.f313.name, by decide, Tryz.func313.trans (congrArg some (by kernel_rfl))⟩
 f13 := ⟨Tryz.f314.name, by decide, Tryz.func314.trans (congrArg some (by kernel_rfl))⟩
 f14 := ⟨Tryz.f315.name, by decide, Tryz.func315.trans (congrArg some (by kernel_rfl))⟩
 f15 := ⟨Tryz.f316.name, by decide, Tryz.func316.trans (congrArg some (by kernel_rfl))⟩
 f16 := ⟨Tryz.f317.name, by decide, Tryz.func317.trans (congrArg some (by kernel_rfl))⟩
 f17 := ⟨Tryz.f318.name, by decide, Tryz.func318.trans (congrArg some (by kernel_rfl))⟩
 f18 := ⟨Tryz.f319.name, by decide, Tryz.func319.trans (congrArg some (by kernel_rfl))⟩
 f19 := Tryz.func320.trans (congrArg some (by kernel_rfl))
 f20 := Tryz.func321.trans (congrArg some (by kernel_rfl))
 f30 := ⟨Tryz.f322.name, by decide, Tryz.func322.trans (congrArg some (by kernel_rfl))⟩
 f31 := Tryz.func323.trans (congrArg some (by kernel_rfl))
 f32 := Tryz.func324.trans (congrArg some (by kernel_rfl))
 f33 := ⟨Tryz.f325.name, by decide, Tryz.func325.trans (congrArg some (by kernel_rfl))⟩
 f34 := ⟨Tryz.f326.name, by decide, Tryz.func326.trans (congrArg some (by kernel_rfl))⟩
 f35 := ⟨Tryz.f291.name, by decide, Tryz.func291.trans (congrArg some (by kernel_rfl))⟩
 f40 := ⟨Tryz.f327.name, by decide, Tryz.func327.trans (congrArg some (by kernel_rfl))⟩
 t0 := Tryz.underlying0
 a0 := Tryz.isAgg0
 z0 := Tryz.sizeOf0
 v0 := Tryz.zeroValue0
 t3 := Tryz.underlying3
 a3 := Tryz.isAgg3
 z3 := Tryz.sizeOf3
 v3 := Tryz.zeroValue3
 t4 := Tryz.underlying4
 a4 := Tryz.isAgg4
 z4 := Tryz.sizeOf4
 v4 := Tryz.zeroValue4
 t5 := Tryz.underlying5
 a5 := Tryz.isAgg5
 z5 := Tryz.sizeOf5
 v5 := Tryz.zeroValue5
 t9 := Tryz.underlying9
 a9 := Tryz.isAgg9
 z9 := Tryz.sizeOf9
 v9 := Tryz.zeroValue9
 t22 := Tryz.underlying24
 a22 := Tryz.isAgg24
 z22 := Tryz.sizeOf24
 v22 := Tryz.zeroValue24
 t23 := Tryz.underlying24
 a23 := Tryz.isAgg24
 z23 := Tryz.sizeOf24
 v23 := Tryz.zeroValue24
 t25 := Tryz.underlying3
 a25 := Tryz.isAgg3
 z25 := Tryz.sizeOf3
 v25 := Tryz.zeroValue3
 t32 := Tryz.underlying207
 a32 := Tryz.isAgg207
 z32 := Tryz.sizeOf207
 v32 := Tryz.zeroValue207
 t35 := Tryz.underlying299
 a35 := Tryz.isAgg299
 z35 := Tryz.sizeOf299
 v35 := Tryz.zeroValue299
 t36 := Tryz.underlying300
 a36 := Tryz.isAgg300
 z36 := Tryz.sizeOf300
 v36 := Tryz.zeroValue300
 t41 := Tryz.underlying133
 a41 := Tryz.isAgg133
 z41 := Tryz.sizeOf133
 v41 := Tryz.zeroValue133
 t44 := Tryz.underlying274
 a44 := Tryz.isAgg274
 z44 := Tryz.sizeOf274
 v44 := Tryz.zeroValue274
 t46 := Tryz.underlying277
 a46 := Tryz.isAgg277
 z46 := Tryz.sizeOf277
 v46 := Tryz.zeroValue277
 t53 := Tryz.underlying307
 a53 := Tryz.isAgg307
 z53 := Tryz.sizeOf307
 v53 := Tryz.zeroValue307
 t57 := Tryz.underlying311
 a57 := Tryz.isAgg311
 z57 := Tryz.sizeOf311
 v57 := Tryz.zeroValue311
 t63 := Tryz.underlying313
 a63 := Tryz.isAgg313
 z63 := Tryz.sizeOf313
 v63 := Tryz.zeroValue313
 t64 := Tryz.underlying195
 a64 := Tryz.isAgg195
 z64 := Tryz.sizeOf195
 v64 := Tryz.zeroValue195 }
def Tryz.growO_ren : Go.Shelf.Ren := ⟨fun | 4 => 101 | n => n, fun | 22 => 47 | 25 => 33 | 3 => 3 | 4 => 4 | 9 => 9 | 20 => 20 | 0 => 0 | n => n, fun | n => n⟩
theorem Tryz.growO : Go.Proofs.Lays8.n4 Tryz.prog Tryz.growO_ren := {
 mixed := by kernel_rfl
 f4 := ⟨Tryz.f101.name, by decide, Tryz.func101.trans (congrArg some (by kernel_rfl))⟩
 t0 := Tryz.underlying0
 a0 := Tryz.isAgg0
 z0 := Tryz.sizeOf0
 v0 := Tryz.zeroValue0
 t3 := Tryz.underlying3
 a3 := Tryz.isAgg3
 z3 := Tryz.sizeOf3
 v3 := Tryz.zeroValue3
 t4 := Tryz.underlying4
 a4 := Tryz.isAgg4
 z4 := Tryz.sizeOf4
 v4 := Tryz.zeroValue4
 t9 := Tryz.underlying9
 a9 := Tryz.isAgg9
 z9 := Tryz.sizeOf9
 v9 := Tryz.zeroValue9
 t20 := Tryz.underlying20
 a20 := Tryz.isAgg20
 z20 := Tryz.sizeOf20
 v20 := Tryz.zeroValue20
 t22 := Tryz.underlying47
 a22 := Tryz.isAgg47
 z22 := Tryz.sizeOf47
 v22 := Tryz.zeroValue47 }
def Tryz.growT_ren : Go.Shelf.Ren := ⟨fun | 4 => 107 | n => n, fun | 22 => 57 | 25 => 122 | 3 => 3 | 4 => 4 | 9 => 9 | 20 => 20 | 0 => 0 | n => n, fun | n => n⟩
theorem Tryz.growT : Go.Proofs.Lays8.n4 Tryz.prog Tryz.growT_ren := {
 mixed := by kernel_rfl
 f4 := ⟨Tryz.f107.name, by decide, Tryz.func107.trans (congrArg some (by kernel_rfl))⟩
 t0 := Tryz.underlying0
 a0 := Tryz.isAgg0
 z0 := Tryz.sizeOf0
 v0 := Tryz.zeroValue0
 t3 := Tryz.underlying3
 a3 := Tryz.isAgg3
 z3 := Tryz.sizeOf3
 v3 := Tryz.zeroValue3
 t4 := Tryz.underlying4
 a4 := Tryz.isAgg4
 z4 := Tryz.sizeOf4
 v4 := Tryz.zeroValue4
 t9 := Tryz.underlying9
 a9 := Tryz.isAgg9
 z9 := Tryz.sizeOf9
 v9 := Tryz.zeroValue9
 t20 := Tryz.underlying20
 a20 := Tryz.isAgg20
 z20 := Tryz.sizeOf20
 v20 := Tryz.zeroValue20
 t22 := Tryz.underlying57
 a22 := Tryz.isAgg57
 z22 := Tryz.sizeOf57
 v22 := Tryz.zeroValue57 }
end Go.Proofs
namespace Go.Ax.Cd
open Go.RowKit Go.Maps Go.Proofs Go.Proofs.YthcfkplfmjcmoaaGreatDoor Go.Shelf Go.Sort
theorem sD (l : List Int) (x : Int) : x ∈ iG l ↔ x ∈ l := by
 induction l with
 | nil => simp [iG]
 | cons a l ih =>
  rw [iG]
  split
  ·rename_i h
   rw [ih, List.mem_cons]
   exact ⟨.inr, fun h2 => h2.elim (fun e => by rw [e]; exact List.contains_iff_mem.1 h) id⟩
  ·rw [List.mem_cons, List.mem_cons, ih]
theorem tE (l : List Int) : (iG l).Nodup := by
 induction l with
 | nil => exact List.nodup_nil
 | cons a l ih =>
  rw [iG]
  split
  ·exact ih
  ·rename_i h
   rw [List.nodup_cons, sD]
   exact ⟨fun hm => h (List.contains_iff_mem.2 hm), ih⟩
theorem Tryz.sortsA (m : Nat) : AnyZI.SortsIn Tryz.prog Tryz.sortedA_ren Fence.wide m :=
 ⟨fun blk off cap ss W hH hblk hsz => callsIn_wide.2 (AnyM.slices_Sort_int Tryz.sortA blk off cap ss W hH hblk hsz),
  fun p cap W => callsIn_wide.2 (AnyM.slices_Sort_int_none Tryz.sortA p cap W)⟩
set_option maxHeartbeats 8000000 in
set_option maxRecDepth 100000 in
theorem aYm (A0 : Option Addr) (c0 : Nat) (l0 : List Int) (w : World) (hr0 : RI w A0 l0) (hc0 : l0.length ≤ c0) (hh : l0.length ≤ 17592186044416 ∧ (∀ x ∈ l0, (Lit.int .i64 x).wf = true)) :
  Calls Tryz.prog 287 #[.slice A0 l0.length c0] w fun e w' => ∃ v0_ : Value, e = .returned (v0_) ∧ w'.ownsRow w.heap.size 3 1 v0_ (aJ l0).length ((aJ l0).map (Value.int .i64)) ∧ (aJ l0 = [] → v0_ = .slice none 0 0) ∧ Below w.heap.size w w' := by
 have HR0 := Aside0.mk hr0
 have HC0 := Aside0.mk hc0
 clear hr0 hc0
 go_enter Tryz.func287, Tryz.ntmps287
 go_wp2_with fail
 refine (wH A0 c0 l0 w HR0.out HC0.out (by omega) hh.2).mono ?_
 rintro e w1 ⟨rfl, ⟨D, hown, hS⟩, hb1⟩
 have hsz1 := oM hb1
 have hk : Tryz.prog.underlying 3 = some (.int .i64) := Tryz.underlying3
 obtain ⟨hnd, hmem⟩ := IMap.keys_of hk hown
 have hszD : Maps.size D ≤ l0.length := hown.size_le
 have hbl := hown.lt
 have hseq : SeqGives Fence.wide 2 Tryz.prog 303 #[.pointer (some ⟨w1.heap.size, 0, none⟩)] encZ (fun ss => ss.Perm (intKeys D)) (Maps.size D) (w1.alloc (.cells #[.map (some w.heap.size)] 280)) :=
  AnyZI.keys_gives (ρ := Tryz.keysA_ren) { Tryz.keysA with } Fence.wide _ trivial rfl (by omega) w1.heap.size w.heap.size l0.length D _ (by simp) (by simp) (by
   obtain ⟨es, clock, hb, Ft, hs, hD⟩ := hown
   exact ⟨es, clock, (Below.heap_alloc _ _ w.heap.size hbl).trans hb, Ft, hs, hD⟩)
 have cK : Calls Tryz.prog 295 #[.map (some w.heap.size)] w1 fun e w' => e = .returned (.func (.func 303) #[] #[.pointer (some ⟨w1.heap.size, 0, none⟩)]) ∧ w' = w1.alloc (.cells #[.map (some w.heap.size)] 280) := (callsIn_wide (n := 5)).1 (AnyZI.keys_in Tryz.keysA Fence.wide 5 trivial rfl _ w1)
 have cS := AnyZI.sorted_in Tryz.sortedA Fence.wide 5 trivial trivial trivial trivial rfl (by omega) (Tryz.sortsA _) (enters_of Tryz.func302 (by kernel_rfl) rfl) 303 #[.pointer (some ⟨w1.heap.size, 0, none⟩)] trivial (enters_of Tryz.func303 (by kernel_rfl) rfl) _ _ (by unfold maxLen; omega) (by omega) _ hseq
 change CallsIn _ _ Tryz.prog 294 _ _ _ at cS
 have cS := callsIn_wide.1 cS
 have HD := Aside0.mk (And.intro hnd hmem)
 have HS := Aside0.mk hS
 have HB1 := Aside0.mk hb1
 clear hown hseq hnd hmem hS hb1 hszD hbl hk
 go_wp2_with fail
 refine cK.mono ?_
 rintro e w2 ⟨rfl, rfl⟩
 go_wp2_with fail
 refine cS.mono ?_
 rintro e w3 ⟨v, ss, rfl, hp, hrow, hnil, hb3⟩
 have hms : ss.mergeSort (fun x y => decide (x ≤ y)) = aJ l0 := by
  refine mergeSort_of_perm_i (hp.trans ?_)
  refine (List.perm_ext_iff_of_nodup HD.out.1 (tE l0)).2 fun x =>?_
  rw [HD.out.2, sD, (HS.out x).2, List.contains_iff_mem]
 have hlen : ss.length = (aJ l0).length := by rw [← hms, List.length_mergeSort]
 have hba : Below w.heap.size w (w1.alloc (.cells #[.map (some w.heap.size)] 280)) := HB1.out.alloc hsz1 _
 rw [hms, hlen] at hrow
 have hR := ownsRow_base_a hrow (base' := w.heap.size) (by simp; omega)
 have hn : aJ l0 = [] → v = .slice none 0 0 := fun e => hnil.2 (by
  rw [e] at hlen
  exact List.length_eq_zero_iff.1 hlen)
 have HV := Aside0.mk hR
 have HN := Aside0.mk hn
 have HB := Aside0.mk (aCo hba hb3)
 clear hR hba hb3 hms hlen hp hrow hnil cK cS hn
 go_wp2
 go_ret
 exact ⟨v, rfl, HV.out, HN.out, HB.out⟩
theorem bLo {w w' : World} {F : Nat → Prop} {xs : List Int} {v : Value} (h : w'.ownsRow w.heap.size 3 1 v xs.length (xs.map (Value.int .i64))) : Rd w' (fun b => F b ∨ blk v = some b) (.sl .int) xs [v] ∧ ∀ b, blk v = some b → w.heap.size ≤ b ∧ b < w'.heap.size := by
 obtain ⟨_, ⟨rfl, hn⟩ | ⟨g, cap, cur, rfl, hg, hb, hc, _, hs, ht⟩⟩ := h
 ·obtain rfl := List.length_eq_zero_iff.1 hn
  exact ⟨.nil _, fun b h => by cases h⟩
 ·refine ⟨.sl .int xs g 0 cap (fun i => [.int .i64 (xs.getD i 0)]) (.inr rfl) hc (fun i hi =>?_) (fun _ _ => rfl) (fun i j u hi hj =>?_), fun b h =>?_⟩
  ·rw [List.getD_eq_getElem?_getD, List.getElem?_eq_getElem hi]
   exact .int _
  ·rcases j with _ | j
   ·simp only [List.getElem?_cons_zero, Option.some.injEq] at hj
    subst hj
    simp only [EK.sz, Nat.zero_add, Nat.mul_one, Nat.add_zero, World.cell?, hb]
    have h2 : (cur.toList.take (xs.length * 1))[i]? = some (.int .i64 (xs.getD i 0)) := by
     rw [ht, List.getElem?_map, List.getElem?_eq_getElem hi, List.getD_eq_getElem?_getD, List.getElem?_eq_getElem hi]
     rfl
    rw [List.getElem?_take, if_pos (by omega), Array.getElem?_toList] at h2
    simp [h2]
   ·simp at hj
  ·obtain rfl : g = b := by simpa [blk] using h
   exact ⟨hg, (Array.getElem?_eq_some_iff.1 hb).1⟩
theorem RI.of {w : World} {B : Nat → Prop} {l : List Int} {v : Value} (h : Rd w B (.sl .int) l [v]) : ∃ A cap, v = .slice A l.length cap ∧ l.length ≤ cap ∧ RI w A l := by
 obtain ⟨A, cap, rfl, hc⟩ := h.slice
 refine ⟨A, cap, rfl, hc, fun i hi =>?_⟩
 cases h with
 | nil => exact nomatch hi
 | sl e xs b o cap rows hF hc hr hz hw =>
  refine ⟨_, rfl, ?_⟩
  have h1 := hr i hi
  generalize hx : rows i = row at h1
  cases h1
  have := hw i 0 (.int .i64 l[i]) hi (by rw [hx]; rfl)
  simp only [EK.sz, Nat.mul_one, Nat.add_zero] at this
  rw [← this]
  simp only [Addr.add]
  split
  ·rename_i h
   simp [h]
  ·rfl
theorem wI {w w' : World} {ρ : List Value} {F L N : Nat → Prop} (hR : RepH ρ F L [] w) (hb : Below w.heap.size w w') (hN : ∀ b, N b → w.heap.size ≤ b ∧ b < w'.heap.size) :
  RepH ρ (fun b => F b ∨ N b) L [] w' ∧ Stp w (Own ρ []) F w' (Own ρ []) (fun b => F b ∨ N b) := by
 have ho : ∀ b, ¬ Own ρ [] b := by
  rintro b ⟨n, o, v, h, _⟩
  cases h
 refine ⟨⟨hR.len, fun n o v h => (nomatch h), fun n m o o' v v' b h => (nomatch h), fun b h => ⟨?_, ho b⟩⟩, ⟨⟨hb.os, hb.tape, hb.output, hb.size, fun k hk _ => hb.block k hk⟩, fun b h => .inl h, fun b h => (ho b h).elim, fun b h => h.imp id (fun h => .inr (hN b h).1)⟩⟩
 rcases h with (h | h) | h
 ·exact Nat.lt_of_lt_of_le (hR.froz b (.inl h)).1 hb.size
 ·exact (hN b h).2
 ·exact Nat.lt_of_lt_of_le (hR.froz b (.inr h)).1 hb.size
abbrev vl : Vh := .s (.lent .int)
abbrev vh : Vh := .s (.sln .int)
def mH (l : List Int) : Bool := decide (l.length ≤ 1000000) && l.all (fun x => decide (-9223372036854775808 ≤ x) && decide (x ≤ 9223372036854775807))
theorem aHd {l : List Int} (h : mH l = true) : l.length ≤ 1000000 ∧ ∀ x ∈ l, (Lit.int .i64 x).wf = true := by
 unfold mH at h
 rw [Bool.and_eq_true, List.all_eq_true] at h
 refine ⟨of_decide_eq_true h.1, fun x hx =>?_⟩
 have := h.2 x hx
 rw [Bool.and_eq_true] at this
 have h1 := of_decide_eq_true this.1
 have h2 := of_decide_eq_true this.2
 have e1 : IntKind.i64.min = -9223372036854775808 := rfl
 have e2 : IntKind.i64.max = 9223372036854775807 := rfl
 simp only [Lit.wf, e1, e2, Bool.and_eq_true, decide_eq_true_eq]
 exact ⟨h1, h2⟩
@[reducible] def bHz : Ifc (VhL [vl] × OShL []) (VhL [vh] × OShL []) where
 α := List Int
 tr x := T.gret (mH x.1.1) (aJ x.1.1)
 got _ := []
 did _ := []
 enc _ a _ := ((a, ()), ())
 stop _ _ := (([], ()), ())
theorem sE {h : List AObj} (hd : OShL.dec [] h = some ()) : h = [] := by
 cases h with
 | nil => rfl
 | cons a l => cases hd
theorem bDh : Callable Tryz.prog 287 := ⟨Tryz.f287, body Tryz.f287, by kernel_rfl, by kernel_rfl, by kernel_rfl⟩
theorem aYn : aK Tryz.prog gl 287 (Con.of [vl] [] [vh] [] (Ifc.spec bHz)) := by
 rintro av h ⟨⟨l, _⟩, _⟩ y hd hy ρ F L w us hR hv hg
 obtain ⟨x1, h1, hd⟩ := Option.bind_eq_some_iff.1 hd
 obtain ⟨x2, h2, hd⟩ := Option.bind_eq_some_iff.1 hd
 cases hd
 obtain rfl := sE h2
 have hvs := VhL.sound h1 hv
 obtain ⟨us, rfl⟩ : ∃ u : List Value, us = u.toArray := ⟨us.toList, by simp⟩
 have hl := hvs.length
 match us, hl, hvs with
 | [v], _, hvs =>
  have hvs' : VRs ρ w F (Bx F L) [.bsl .int l] [v] := hvs
  simp only [VRs, VR, and_true] at hvs'
  obtain ⟨A, cap, rfl, hcap, hRI⟩ := RI.of hvs'
  have hy2 : pT (fun a _ => (((a, ()), ()) : VhL [vh] × OShL [])) (fun _ => (([], ()), ())) ((T.gret (mH l) (aJ l)).exec [] []) = some y := hy
  by_cases hgd : mH l = true
  ·rw [hgd] at hy2
   cases hy2
   obtain ⟨g1, g2⟩ := aHd hgd
   refine (aYm A cap l w hRI hcap ⟨by omega, g2⟩).mono ?_
   rintro e w' ⟨v, rfl, hrow, hnil, hb⟩
   obtain ⟨k1, k2⟩ := bLo (F := F) hrow
   obtain ⟨k3, k4⟩ := wI hR hb k2
   exact ⟨ρ, _, ⟨v, rfl, k1, hnil⟩, k3, k4, .refl _, fun i hi => nomatch hi⟩
  ·rw [Bool.not_eq_true] at hgd
   rw [hgd] at hy2
   cases hy2
 | [], hl, _ => simp [VhL.enc] at hl
 | _ :: _ :: _, hl, _ => simp [VhL.enc] at hl
open Go.RowKit Go.Maps Go.Proofs Go.Proofs.YthcfkplfmjcmoaaGreatDoor
set_option maxHeartbeats 8000000 in
set_option maxRecDepth 100000 in
theorem aHe (A0 : Option Addr) (c0 : Nat) (l0 : List Int) (A1 : Option Addr) (c1 : Nat) (l1 : List Int) (w : World) (hr0 : RI w A0 l0) (hc0 : l0.length ≤ c0) (hr1 : RI w A1 l1) (hc1 : l1.length ≤ c1)
  (hl0 : l0.length ≤ 4611686018427387903) (hw0 : ∀ x ∈ l0, (Lit.int .i64 x).wf = true) (hl1 : l1.length ≤ 4611686018427387903) (hw1 : ∀ x ∈ l1, (Lit.int .i64 x).wf = true) :
  Calls Tryz.prog 248 #[.slice A0 l0.length c0, .slice A1 l1.length c1] w fun e w' => e = .returned (.bool (l0.all (fun x => l1.contains x))) ∧ Below w.heap.size w w' := by
 obtain ⟨R, hR⟩ : ∃ R, l0.all (fun x => l1.contains x) = R := ⟨_, rfl⟩
 rw [hR]
 have HRR := Aside0.mk hR
 clear hR
 have HR0 := Aside0.mk hr0
 have HC0 := Aside0.mk hc0
 have HR1 := Aside0.mk hr1
 have HC1 := Aside0.mk hc1
 have HW0 := Aside0.mk hw0
 have HW1 := Aside0.mk hw1
 clear hr0 hc0 hr1 hc1 hw0 hw1
 go_enter Tryz.func248, Tryz.ntmps248
 go_wp2_with fail
 refine (wH A1 c1 l1 w HR1.out HC1.out hl1 HW1.out).mono ?_
 rintro e w1 ⟨rfl, hm1, hb1⟩
 have HM1 := Aside0.mk hm1
 have HB1 := Aside0.mk hb1
 clear hm1 hb1
 go_wp2_with fail
 refine (wH A0 c0 l0 w1 (HR0.out.below HB1.out) HC0.out hl0 HW0.out).mono ?_
 rintro e w2 ⟨rfl, ⟨D, hown, hS⟩, hb2⟩
 have hs1 := HM1.out.lt
 have hs2 := hown.lt
 have hb12 := aCo HB1.out hb2
 go_wp2_with (first | (at_range; refine wpList_range_own _ rfl _ 280 rfl 3 4 (int_keyed Tryz.underlying3) Tryz.underlying280 _ w1.heap.size l0.length D rfl hown ?_; intro w3 hrg3 hg3 hs3))
 have HM3 : Aside0 (IMap.BMap Tryz.prog 3 4 w3 w.heap.size l1.length (fun x => l1.contains x)) := ⟨(HM1.out.below hb2).kept hg3 (by simp)⟩
 have HB3 : Aside0 (Below w.heap.size w w3) := ⟨hb12.grown hg3 (oM hb12) (by simp)⟩
 have HS := Aside0.mk hS
 have HRG3 := Aside0.mk hrg3
 clear hown hS hb2 hb12 hg3 hrg3 hs3
 go_frame
 go_loopw [13] (fun _ wr => ∃ (left : Lit → Bool) (cnt : Nat), Aside0 (wr.ranges Tryz.prog 3 (plainElem Tryz.prog 4) w1.heap.size w2.heap.size l0.length D left cnt) ∧ Aside0 (IMap.BMap Tryz.prog 3 4 wr w.heap.size l1.length (fun x => l1.contains x)) ∧ Aside0 (Below w.heap.size w wr) ∧ Aside0 (∀ x : Int, has D (.int .i64 x) = true → left (.int .i64 x) = false → l1.contains x = true)) (fun _ wr => wr.rangeLeft w1.heap.size w2.heap.size)
 case atStart => exact ⟨_, _, HRG3, HM3, HB3, ⟨fun x h1 h2 => by rw [h1] at h2; cases h2⟩⟩
 case round =>
  clear HRG3 HM3 HB3
  obtain ⟨left, cnt, HRG, HM, HB, HL⟩ := hrel
  go_wp2_with (first | (at_next; refine IMap.wpList_next rfl _ rfl Tryz.underlying3 w1.heap.size w2.heap.size l0.length D left cnt rfl HRG.out ?_ ?_))
  ·intro hl0'
   have hRt : true = R := by
    rw [← HRR.out]
    symm
    rw [List.all_eq_true]
    intro x hx
    exact HL.out x (by rw [(HS.out x).2, List.contains_iff_mem]; exact hx) (hl0' _)
   have HRT := Aside0.mk hRt
   clear hRt hl0'
   go_wp2
   go_ret
   obtain rfl := HRT.out
   exact ⟨rfl, HB.out⟩
  ·intro x v w4 cnt4 hwx hlk hh hrg4 hlt4 hg4 hen
   have HM4 : Aside0 (IMap.BMap Tryz.prog 3 4 w4 w.heap.size l1.length (fun x => l1.contains x)) := ⟨HM.out.kept hg4 (by simp; omega)⟩
   have HB4 : Aside0 (Below w.heap.size w w4) := ⟨HB.out.grown hg4 (oM HB.out) (fun k e => by cases e; omega)⟩
   have hhas : l0.contains x = true := by rw [← (HS.out x).2]; exact hh
   have hlook := HM4.out.lookup Tryz.underlying3 Tryz.underlying4 Tryz.underlying280 (Tryz.zeroValue4 w4) x hwx
   have HRG4 := Aside0.mk hrg4
   have HH := Aside0.mk hhas
   clear hrg4 hh hhas hlk hg4
   cases hc : l1.contains x with
   | true =>
    rw [hc] at hlook
    have HC := Aside0.mk hc
    clear hc
    go_wp2
    go_roundw
    case rel => exact ⟨_, cnt4, HRG4, HM4, HB4, ⟨fun z h1 h2 => by
     by_cases e : z = x
     ·rw [e]; exact HC.out
     ·refine HL.out z h1 ?_
      simpa [Lit.sameKey, e] using h2⟩⟩
    case measure => rw [HRG4.out.left_eq, HRG.out.left_eq]; exact hlt4
   | false =>
    rw [hc] at hlook
    have hRf : false = R := by
     rw [← HRR.out]
     symm
     rw [Bool.eq_false_iff, ne_eq, List.all_eq_true]
     intro hall
     have := hall x (List.contains_iff_mem.1 HH.out)
     rw [hc] at this
     cases this
    have HRF := Aside0.mk hRf
    clear hRf hc
    go_wp2
    go_ret
    obtain rfl := HRF.out
    exact ⟨rfl, HB4.out⟩
def xK (a b : List Int) : Bool := a.all (fun x => b.contains x)
@[reducible] def aQw : Ifc (VhL [vl, vl] × OShL []) (VhL [vb] × OShL []) where
 α := Bool
 tr x := T.gret (mH x.1.1 && mH x.1.2.1) (xK x.1.1 x.1.2.1)
 got _ := []
 did _ := []
 enc _ a _ := ((a, ()), ())
 stop _ _ := ((false, ()), ())
theorem aKq : Callable Tryz.prog 248 := ⟨Tryz.f248, body Tryz.f248, by kernel_rfl, by kernel_rfl, by kernel_rfl⟩
theorem aHf : aK Tryz.prog gl 248 (Con.of [vl, vl] [] [vb] [] (Ifc.spec aQw)) := by
 rintro av h ⟨⟨l0, l1, _⟩, _⟩ y hd hy ρ F L w us hR hv hg
 obtain ⟨x1, h1, hd⟩ := Option.bind_eq_some_iff.1 hd
 obtain ⟨x2, h2, hd⟩ := Option.bind_eq_some_iff.1 hd
 cases hd
 obtain rfl := sE h2
 have hvs := VhL.sound h1 hv
 obtain ⟨us, rfl⟩ : ∃ u : List Value, us = u.toArray := ⟨us.toList, by simp⟩
 have hl := hvs.length
 match us, hl, hvs with
 | [v0, v1], _, hvs =>
  have hvs' : VRs ρ w F (Bx F L) [.bsl .int l0, .bsl .int l1] [v0, v1] := hvs
  simp only [VRs, VR, and_true] at hvs'
  obtain ⟨A0, cap0, rfl, hcap0, hRI0⟩ := RI.of hvs'.1
  obtain ⟨A1, cap1, rfl, hcap1, hRI1⟩ := RI.of hvs'.2
  have hy2 : pT (fun a _ => (((a, ()), ()) : VhL [vb] × OShL [])) (fun _ => ((false, ()), ())) ((T.gret (mH l0 && mH l1) (xK l0 l1)).exec [] []) = some y := hy
  by_cases hgd : (mH l0 && mH l1) = true
  ·rw [hgd] at hy2
   cases hy2
   rw [Bool.and_eq_true] at hgd
   obtain ⟨g1, g2⟩ := aHd hgd.1
   obtain ⟨g3, g4⟩ := aHd hgd.2
   refine (aHe A0 cap0 l0 A1 cap1 l1 w hRI0 hcap0 hRI1 hcap1 (by omega) g2 (by omega) g4).mono ?_
   rintro e w' ⟨rfl, hb⟩
   obtain ⟨k3, k4⟩ := wI (N := fun _ => False) hR hb (fun _ h => h.elim)
   refine ⟨ρ, _, ⟨_, rfl, ?_⟩, k3, k4, .refl _, fun i hi => nomatch hi⟩
   show VR _ _ _ _ (.bool (xK l0 l1)) _
   simp [VR, xK]
  ·rw [Bool.not_eq_true] at hgd
   rw [hgd] at hy2
   cases hy2
 | [], hl, _ => simp [VhL.enc] at hl
 | [_], hl, _ => simp [VhL.enc] at hl
 | _ :: _ :: _ :: _, hl, _ => simp [VhL.enc] at hl
open Go.Proofs
set_option linter.unusedVariables false
set_option maxRecDepth 100000
abbrev aX : List OSh := [.arr (.st .pr)]
@[reducible] def aUw : PIf (VhL [vi] × OShL []) (VhL [vb] × OShL []) where
 α := Bool
 tr x := T.ret ((fun (x : Int) => ((x != x))) x.1.1)
 enc x a := ((a, ()), ())
abbrev isNanI_T : Type := VhL [vi] × OShL [] → Option (VhL [vb] × OShL [])
noncomputable abbrev tF (sp : isNanI_T) : Con := Con.of [vi] [] [vb] [] sp
noncomputable abbrev aHg : isNanI_T := PIf.spec aUw
theorem aQx (x : Int) : runN Tryz.f291 [vi] [] [vb] [] [] [] [] (((x, ()), ()) : VhL [vi] × OShL []) = (some ((x != x, ()), ())) := by kernel_rfl
theorem aYo : aK Tryz.prog gl 291 (tF aHg) := by
 refine cnk (fn := Tryz.f291) (G := []) (GOk.nil) (by kernel_rfl) (by kernel_rfl) (Lc := []) (nh := []) (aA (by kernel_rfl)) ?_
 rintro ⟨⟨x, _⟩, _⟩
 refine (aQx ..).trans ?_
 rfl
theorem bDi {G : List (Nat × Con)} (h : GOk Tryz.prog gl G) : GOk Tryz.prog gl ((291, tF aHg) :: G) := GOk.cons ⟨Tryz.f291, body Tryz.f291, by kernel_rfl, by kernel_rfl, by kernel_rfl⟩ aYo h
def sF (x y : Int) : T (Int) :=
 bif x != x then
 bif y != y then
 .ret 0
 else
 .ret (Int.negSucc 0)
 else
 bif y != y then
 .ret 1
 else
 bif decide (x < y) then
 .ret (Int.negSucc 0)
 else
 bif decide (x > y) then
 .ret 1
 else
 .ret 0
@[reducible] def bDj : PIf (VhL [vi, vi] × OShL []) (VhL [vi] × OShL []) where
 α := Int
 tr x := sF x.1.1 x.1.2.1
 enc x a := ((a, ()), ())
abbrev cmpI_T : Type := VhL [vi, vi] × OShL [] → Option (VhL [vi] × OShL [])
noncomputable abbrev wJ (sp : cmpI_T) : Con := Con.of [vi, vi] [] [vi] [] sp
noncomputable abbrev aUx : cmpI_T := PIf.spec bDj
theorem bDk (p0 : isNanI_T) (x y : Int) : runN Tryz.f259 [vi, vi] [] [vi] [] [(291, tF p0)] [] [] (((x, y, ()), ()) : VhL [vi, vi] × OShL []) = ((p0 ((x, ()), ())).bind fun z => (p0 ((y, ()), ())).bind fun z1 => bif z.1.1 then bif z1.1.1 then some ((0, ()), ()) else some ((Int.negSucc 0, ()), ()) else bif z1.1.1 then some ((1, ()), ()) else bif decide (x < y) then some ((Int.negSucc 0, ()), ()) else bif decide (x > y) then some ((1, ()), ()) else some ((0, ()), ())) := by kernel_rfl
theorem bIa : aK Tryz.prog gl 259 (wJ aUx) := by
 refine cnk (fn := Tryz.f259) (G := [(291, tF aHg)]) (bDi (GOk.nil)) (by kernel_rfl) (by kernel_rfl) (Lc := []) (nh := []) (aA (by kernel_rfl)) ?_
 rintro ⟨⟨x, y, _⟩, _⟩
 refine (bDk ..).trans ?_
 show _ = ((sF x y).val).map _
 unfold sF
 repeat' (first|refine aP (fun _ =>?_) (fun _ =>?_)|(refine (retP (by with_reducible rfl)).trans ?_; try dsimp only [aH, cond_true, cond_false, Bool.not_true, Bool.not_false, one, mI, aUw]) | rfl)
theorem bDl {G : List (Nat × Con)} (h : GOk Tryz.prog gl G) : GOk Tryz.prog gl ((259, wJ aUx) :: G) := GOk.cons ⟨Tryz.f259, body Tryz.f259, by kernel_rfl, by kernel_rfl, by kernel_rfl⟩ bIa h
def lE (a b : Pr) : T (Int) :=
 (sF a.k b.k).bind fun x0 =>
 .ret x0
@[reducible] def eU : PIf (VhL [.s (.e (.st .pr)), .s (.e (.st .pr))] × OShL []) (VhL [vi] × OShL []) where
 α := Int
 tr x := lE x.1.1 x.1.2.1
 enc x a := ((a, ()), ())
abbrev cmpPr_T : Type := VhL [.s (.e (.st .pr)), .s (.e (.st .pr))] × OShL [] → Option (VhL [vi] × OShL [])
noncomputable abbrev aS (sp : cmpPr_T) : Con := Con.of [.s (.e (.st .pr)), .s (.e (.st .pr))] [] [vi] [] sp
noncomputable abbrev dB : cmpPr_T := PIf.spec eU
theorem aYp (p0 : cmpI_T) (a b : Pr) : runN Tryz.f258 [.s (.e (.st .pr)), .s (.e (.st .pr))] [] [vi] [] [(259, wJ p0)] [] [] (((a, b, ()), ()) : VhL [.s (.e (.st .pr)), .s (.e (.st .pr))] × OShL []) = ((p0 ((a.k, b.k, ()), ())).bind fun z => some ((z.1.1, ()), ())) := by kernel_rfl
theorem bDm : aK Tryz.prog gl 258 (aS dB) := by
 refine cnk (fn := Tryz.f258) (G := [(259, wJ aUx)]) (bDl (GOk.nil)) (by kernel_rfl) (by kernel_rfl) (Lc := []) (nh := []) (aA (by kernel_rfl)) ?_
 rintro ⟨⟨a, b, _⟩, _⟩
 refine (aYp ..).trans ?_
 show _ = ((lE a b).val).map _
 unfold lE
 repeat' (first|(refine cD (fun _ =>?_); try dsimp only [aH, cond_true, cond_false, Bool.not_true, Bool.not_false, one, mI, bDj]) | rfl)
theorem cI {G : List (Nat × Con)} (h : GOk Tryz.prog gl G) : GOk Tryz.prog gl ((258, aS dB) :: G) := GOk.cons ⟨Tryz.f258, body Tryz.f258, by kernel_rfl, by kernel_rfl, by kernel_rfl⟩ bDm h
abbrev fO : List Vh := [.s (.ownC 0), vi, vi, vi, vi]
abbrev fP : List OSh := aX
noncomputable abbrev swapPrL0fin : Fin := (Fin.one 1 Tryz.f309.ntmps (.exit 0) [0] [.s (.ownC 0)] aX)
noncomputable abbrev qR (sp : VhL fO × OShL fP → Option swapPrL0fin.Y) : LCon := LCon.of Tryz.f309.ntmps [0, 1, 2, 3, 10] fO fP swapPrL0fin sp
def dN (v1 v2 v3 : Int) (st : Int × List Pr) : T ((Int × List Pr) ⊕ (List Pr)) :=
 let v4 := st.1
 let d := st.2
 bif decide (v4 < v3) then
 bif inR (w64 (v2 + v4)) d.length then
 bif inR (w64 (v1 + v4)) d.length then
 bif inR (w64 (v1 + v4)) d.length then
 bif inR (w64 (v2 + v4)) (wrE (EK.st SN.pr) d (w64 (v1 + v4)) (rdE (EK.st SN.pr) d (w64 (v2 + v4)))).length then
 .ret (Sum.inl (w64 (v4 + 1), wrE (EK.st SN.pr) (wrE (EK.st SN.pr) d (w64 (v1 + v4)) (rdE (EK.st SN.pr) d (w64 (v2 + v4)))) (w64 (v2 + v4)) (rdE (EK.st SN.pr) d (w64 (v1 + v4)))))
 else
 .bot
 else
 .bot
 else
 .bot
 else
 .bot
 else
 .ret (Sum.inr d)
@[reducible] def qS : PIf (VhL fO × OShL fP) swapPrL0fin.Y where
 α := List Pr
 tr x := T.loop (dN x.1.2.1 x.1.2.2.1 x.1.2.2.2.1) FU (x.1.2.2.2.2.1, x.2.1)
 enc x a := ((x.1.1, ()), (a, ()))
theorem aHh (sp_cmpPr : cmpPr_T) (v0 : Value) (v1 v2 v3 v4 : Int) (d : List Pr) : gY 1 Tryz.f309 0 [0, 1, 2, 3, 10] fO fP swapPrL0fin [(258, aS sp_cmpPr)] [] [] (((v0, v1, v2, v3, v4, ()), (d, ())) : VhL fO × OShL fP) = (bif decide (v4 < v3) then bif inR (w64 (v2 + v4)) d.length then bif inR (w64 (v1 + v4)) d.length then bif inR (w64 (v1 + v4)) d.length then bif inR (w64 (v2 + v4)) (wrE (EK.st SN.pr) d (w64 (v1 + v4)) (rdE (EK.st SN.pr) d (w64 (v2 + v4)))).length then some (Sum.inl ((v0, v1, v2, v3, w64 (v4 + 1), ()), wrE (EK.st SN.pr) (wrE (EK.st SN.pr) d (w64 (v1 + v4)) (rdE (EK.st SN.pr) d (w64 (v2 + v4)))) (w64 (v2 + v4)) (rdE (EK.st SN.pr) d (w64 (v1 + v4))), ())) else none else none else none else none
else some (Sum.inr ((v0, ()), d, ()))) := by kernel_rfl
theorem aKr : LOk Tryz.prog gl 1 (qR (PIf.spec qS)) (bE (body Tryz.f309) 0) := by
 refine lwk (Lc := []) (nh := []) (G := [(258, aS dB)]) (cI (GOk.nil)) (aA (by kernel_rfl)) (Fin.one_ok _ _ _ _) ?_
 rintro ⟨⟨v0, v1, v2, v3, v4, _⟩, ⟨d, _⟩⟩ y hy
 refine ⟨_, aZ (eX := fun (st : Int × List Pr) => (let v4 := st.1; let d := st.2; ((v0, v1, v2, v3, v4, ()), (d, ())) : VhL fO × OShL fP)) (body := dN v1 v2 v3) (fun st =>?_) _ (v4, d) y hy⟩
 obtain ⟨v4, d⟩ := st
 refine (aHh ..).trans ?_
 unfold dN
 repeat' (first|refine aP (fun _ =>?_) (fun _ =>?_) | rfl)
def gU (a b n : Int) (d : List Pr) : T (List Pr) :=
 (T.loop (dN a b n) 4611686018427387904 (0, d)).bind fun x0 =>
 .ret x0
@[reducible] def bDn : PIf (VhL [.s (.ownC 0), vi, vi, vi, .clo 258 []] × OShL aX) (VhL [.s (.ownC 0)] × OShL aX) where
 α := List Pr
 tr x := gU x.1.2.1 x.1.2.2.1 x.1.2.2.2.1 x.2.1
 enc x a := ((x.1.1, ()), (a, ()))
@[reducible] def aAb : PIf (VhL [.s (.own 0), vi, vi, vi, .clo 258 []] × OShL aX) (VhL [] × OShL aX) where
 α := List Pr
 tr x := gU x.1.2.1 x.1.2.2.1 x.1.2.2.2.1 x.2.1
 enc x a := ((), (a, ()))
abbrev swapPr_T : Type := VhL [.s (.own 0), vi, vi, vi, .clo 258 []] × OShL aX → Option (VhL [] × OShL aX)
noncomputable abbrev nT (sp : swapPr_T) : Con := Con.fx [vi, vi, vi, .clo 258 []] aX [] aX sp
noncomputable abbrev aAc : swapPr_T := PIf.spec aAb
theorem aQy (p0 : cmpPr_T) (p1 : VhL fO × OShL fP → Option swapPrL0fin.Y) (c0 : Value) (a b n : Int) (d : List Pr) : vX Tryz.f309 [vi, vi, vi, .clo 258 []] aX [] aX [(258, aS p0)] [(1, qR p1)] [] (((c0, a, b, n, (), ()), (d, ())) : VhL [.s (.ownC 0), vi, vi, vi, .clo 258 []] × OShL aX) = ((p1 ((c0, a, b, n, 0, ()), d, ())).bind fun z => some ((z.1.1, ()), z.2.1, ())) := by kernel_rfl
theorem aYq : aK Tryz.prog gl 309 (nT aAc) := by
 refine cxk (I := bDn) (J := aAb) (fn := Tryz.f309) (G := [(258, aS dB)]) (cI (GOk.nil)) (by kernel_rfl) (by kernel_rfl) (Lc := [(1, qR (PIf.spec qS))]) (nh := []) (bD (bs := [bE (body Tryz.f309) 0]) (by kernel_rfl) ⟨bB (q := (1, qR (PIf.spec qS))) (by kernel_rfl) aKr, trivial⟩) ?_ (fun c0 x o y h => by obtain ⟨a, h1, rfl⟩ := Option.map_eq_some_iff.1 h; exact Option.map_eq_some_iff.2 ⟨a, h1, rfl⟩)
 rintro ⟨⟨c0, a, b, n, _, _⟩, ⟨d, _⟩⟩
 refine (aQy ..).trans ?_
 show _ = ((gU a b n d).val).map _
 unfold gU
 repeat' (first|(refine cD (fun _ =>?_); try dsimp only [aH, cond_true, cond_false, Bool.not_true, Bool.not_false, one, mI, eU, qS]) | rfl)
theorem aKs {G : List (Nat × Con)} (h : GOk Tryz.prog gl G) : GOk Tryz.prog gl ((309, nT aAc) :: G) := GOk.cons ⟨Tryz.f309, body Tryz.f309, by kernel_rfl, by kernel_rfl, by kernel_rfl⟩ aYq h
abbrev iO : List Vh := [.s (.ownC 0), vi, .clo 258 [], vi, vi]
abbrev iP : List OSh := aX
noncomputable abbrev rotPrL0fin : Fin := (Fin.one 1 Tryz.f304.ntmps (.exit 0) [0, 2, 4, 10] [.s (.ownC 0), vi, .clo 258 [], vi] aX)
noncomputable abbrev tH (sp : VhL iO × OShL iP → Option rotPrL0fin.Y) : LCon := LCon.of Tryz.f304.ntmps [0, 2, 4, 10, 11] iO iP rotPrL0fin sp
def dD (v1 : Int) (st : Int × Int × List Pr) : T ((Int × Int × List Pr) ⊕ (Int × List Pr)) :=
 let v2 := st.1
 let v3 := st.2.1
 let d := st.2.2
 bif v2 != v3 then
 bif decide (v2 > v3) then
 (gU (w64 (v1 - v2)) v1 v3 d).bind fun x0 =>
 .ret (Sum.inl (w64 (v2 - v3), v3, x0))
 else
 (gU (w64 (v1 - v2)) (w64 (w64 (v1 + v3) - v2)) v2 d).bind fun x0 =>
 .ret (Sum.inl (v2, w64 (v3 - v2), x0))
 else
 .ret (Sum.inr (v2, d))
@[reducible] def tI : PIf (VhL iO × OShL iP) rotPrL0fin.Y where
 α := Int × List Pr
 tr x := T.loop (dD x.1.2.1) FU (x.1.2.2.2.1, x.1.2.2.2.2.1, x.2.1)
 enc x a := ((x.1.1, x.1.2.1, (), a.1, ()), (a.2, ()))
theorem aKt (sp_cmpPr : cmpPr_T) (sp_swapPr : swapPr_T) (v0 : Value) (v1 v2 v3 : Int) (d : List Pr) : gY 1 Tryz.f304 0 [0, 2, 4, 10, 11] iO iP rotPrL0fin [(258, aS sp_cmpPr), (309, nT sp_swapPr)] [] [] (((v0, v1, (), v2, v3, ()), (d, ())) : VhL iO × OShL iP) = (bif v2 != v3 then bif decide (v2 > v3) then (sp_swapPr (((), w64 (v1 - v2), v1, v3, (), ()), d, ())).bind fun val => some (Sum.inl ((v0, v1, (), w64 (v2 - v3), v3, ()), val.2.1, ())) else (sp_swapPr (((), w64 (v1 - v2), w64 (w64 (v1 + v3) - v2), v2, (), ()), d, ())).bind fun val => some (Sum.inl ((v0, v1, (), v2, w64 (v3 - v2), ()), val.2.1, ()))
else some (Sum.inr ((v0, v1, (), v2, ()), d, ()))) := by kernel_rfl
theorem aQz : LOk Tryz.prog gl 1 (tH (PIf.spec tI)) (bE (body Tryz.f304) 0) := by
 refine lwk (Lc := []) (nh := []) (G := [(258, aS dB), (309, nT aAc)]) (cI (aKs (GOk.nil))) (aA (by kernel_rfl)) (Fin.one_ok _ _ _ _) ?_
 rintro ⟨⟨v0, v1, _, v2, v3, _⟩, ⟨d, _⟩⟩ y hy
 refine ⟨_, aZ (eX := fun (st : Int × Int × List Pr) => (let v2 := st.1; let v3 := st.2.1; let d := st.2.2; ((v0, v1, (), v2, v3, ()), (d, ())) : VhL iO × OShL iP)) (body := dD v1) (fun st =>?_) _ (v2, v3, d) y hy⟩
 obtain ⟨v2, v3, d⟩ := st
 refine (aKt ..).trans ?_
 unfold dD
 repeat' (first|refine aP (fun _ =>?_) (fun _ =>?_)|(refine cD (fun _ =>?_); try dsimp only [aH, cond_true, cond_false, Bool.not_true, Bool.not_false, one, mI, eU, aAb]) | rfl)
def lF (a m b : Int) (d : List Pr) : T (List Pr) :=
 (T.loop (dD m) 4611686018427387904 (w64 (m - a), w64 (b - m), d)).bind fun x0 =>
 (gU (w64 (m - x0.1)) m x0.1 x0.2).bind fun x1 =>
 .ret x1
@[reducible] def bIb : PIf (VhL [.s (.ownC 0), vi, vi, vi, .clo 258 []] × OShL aX) (VhL [.s (.ownC 0)] × OShL aX) where
 α := List Pr
 tr x := lF x.1.2.1 x.1.2.2.1 x.1.2.2.2.1 x.2.1
 enc x a := ((x.1.1, ()), (a, ()))
@[reducible] def wK : PIf (VhL [.s (.own 0), vi, vi, vi, .clo 258 []] × OShL aX) (VhL [] × OShL aX) where
 α := List Pr
 tr x := lF x.1.2.1 x.1.2.2.1 x.1.2.2.2.1 x.2.1
 enc x a := ((), (a, ()))
abbrev rotPr_T : Type := VhL [.s (.own 0), vi, vi, vi, .clo 258 []] × OShL aX → Option (VhL [] × OShL aX)
noncomputable abbrev dR (sp : rotPr_T) : Con := Con.fx [vi, vi, vi, .clo 258 []] aX [] aX sp
noncomputable abbrev qD : rotPr_T := PIf.spec wK
theorem aYr (p0 : cmpPr_T) (p1 : swapPr_T) (p2 : VhL iO × OShL iP → Option rotPrL0fin.Y) (c0 : Value) (a m b : Int) (d : List Pr) : vX Tryz.f304 [vi, vi, vi, .clo 258 []] aX [] aX [(258, aS p0), (309, nT p1)] [(2, tH p2)] [] (((c0, a, m, b, (), ()), (d, ())) : VhL [.s (.ownC 0), vi, vi, vi, .clo 258 []] × OShL aX) = ((p2 ((c0, m, (), w64 (m - a), w64 (b - m), ()), d, ())).bind fun z => (p1 (((), w64 (z.1.2.1 - z.1.2.2.2.1), z.1.2.1, z.1.2.2.2.1, (), ()), z.2.1, ())).bind fun z1 => some ((z.1.1, ()), z1.2.1, ())) := by kernel_rfl
theorem bDo : aK Tryz.prog gl 304 (dR qD) := by
 refine cxk (I := bIb) (J := wK) (fn := Tryz.f304) (G := [(258, aS dB), (309, nT aAc)]) (cI (aKs (GOk.nil))) (by kernel_rfl) (by kernel_rfl) (Lc := [(2, tH (PIf.spec tI))]) (nh := []) (bD (bs := [bE (body Tryz.f304) 0]) (by kernel_rfl) ⟨bB (q := (2, tH (PIf.spec tI))) (by kernel_rfl) aQz, trivial⟩) ?_ (fun c0 x o y h => by obtain ⟨a, h1, rfl⟩ := Option.map_eq_some_iff.1 h; exact Option.map_eq_some_iff.2 ⟨a, h1, rfl⟩)
 rintro ⟨⟨c0, a, m, b, _, _⟩, ⟨d, _⟩⟩
 refine (aYr ..).trans ?_
 show _ = ((lF a m b d).val).map _
 unfold lF
 repeat' (first|(refine cD (fun _ =>?_); try dsimp only [aH, cond_true, cond_false, Bool.not_true, Bool.not_false, one, mI, eU, aAb, tI]) | rfl)
theorem qT {G : List (Nat × Con)} (h : GOk Tryz.prog gl G) : GOk Tryz.prog gl ((304, dR qD) :: G) := GOk.cons ⟨Tryz.f304, body Tryz.f304, by kernel_rfl, by kernel_rfl, by kernel_rfl⟩ bDo h
abbrev gI : List Vh := [.s (.ownC 0), vi, vi, .clo 258 [], vi, vi]
abbrev gJ : List OSh := aX
noncomputable abbrev insPrL1fin : Fin := (Fin.one 1 Tryz.f296.ntmps (.exit 2) [0, 1, 2, 3, 8] [.s (.ownC 0), vi, vi, .clo 258 [], vi] aX)
noncomputable abbrev mJ (sp : VhL gI × OShL gJ → Option insPrL1fin.Y) : LCon := LCon.of Tryz.f296.ntmps [0, 1, 2, 3, 8, 9] gI gJ insPrL1fin sp
def dE (v1 v2 v3 : Int) (st : Int × List Pr) : T ((Int × List Pr) ⊕ (List Pr)) :=
 let v4 := st.1
 let d := st.2
 bif decide (v4 > v1) then
 bif inR v4 d.length then
 bif inR (w64 (v4 - 1)) d.length then
 (lE (rdE (EK.st SN.pr) d v4) (rdE (EK.st SN.pr) d (w64 (v4 - 1)))).bind fun x0 =>
 bif decide (x0 < 0) then
 bif inR (w64 (v4 - 1)) d.length then
 bif inR v4 d.length then
 bif inR v4 d.length then
 bif inR (w64 (v4 - 1)) (wrE (EK.st SN.pr) d v4 (rdE (EK.st SN.pr) d (w64 (v4 - 1)))).length then
 .ret (Sum.inl (w64 (v4 - 1), wrE (EK.st SN.pr) (wrE (EK.st SN.pr) d v4 (rdE (EK.st SN.pr) d (w64 (v4 - 1)))) (w64 (v4 - 1)) (rdE (EK.st SN.pr) d v4)))
 else
 .bot
 else
 .bot
 else
 .bot
 else
 .bot
 else
 .ret (Sum.inr d)
 else
 .bot
 else
 .bot
 else
 .ret (Sum.inr d)
@[reducible] def mK : PIf (VhL gI × OShL gJ) insPrL1fin.Y where
 α := List Pr
 tr x := T.loop (dE x.1.2.1 x.1.2.2.1 x.1.2.2.2.2.1) FU (x.1.2.2.2.2.2.1, x.2.1)
 enc x a := ((x.1.1, x.1.2.1, x.1.2.2.1, (), x.1.2.2.2.2.1, ()), (a, ()))
theorem aKu (sp_cmpPr : cmpPr_T) (v0 : Value) (v1 v2 v3 v4 : Int) (d : List Pr) : gY 1 Tryz.f296 1 [0, 1, 2, 3, 8, 9] gI gJ insPrL1fin [(258, aS sp_cmpPr)] [] [] (((v0, v1, v2, (), v3, v4, ()), (d, ())) : VhL gI × OShL gJ) = (bif decide (v4 > v1) then bif inR v4 d.length then bif inR (w64 (v4 - 1)) d.length then (sp_cmpPr ((rdE (EK.st SN.pr) d v4, rdE (EK.st SN.pr) d (w64 (v4 - 1)), ()), ())).bind fun val => bif decide (val.1.1 < 0) then bif inR (w64 (v4 - 1)) d.length then bif inR v4 d.length then bif inR v4 d.length then bif inR (w64 (v4 - 1)) (wrE (EK.st SN.pr) d v4 (rdE (EK.st SN.pr) d (w64 (v4 - 1)))).length then some (Sum.inl ((v0, v1, v2, (), v3, w64 (v4 - 1), ()), wrE (EK.st SN.pr) (wrE (EK.st SN.pr) d v4 (rdE (EK.st SN.pr) d (w64 (v4 - 1)))) (w64 (v4 - 1)) (rdE (EK.st SN.pr) d v4), ())) else none else none else none else none else some (Sum.inr ((v0, v1, v2, (), v3, ()), d, ())) else none else none
else some (Sum.inr ((v0, v1, v2, (), v3, ()), d, ()))) := by kernel_rfl
theorem aCp : LOk Tryz.prog gl 1 (mJ (PIf.spec mK)) (bE (body Tryz.f296) 1) := by
 refine lwk (Lc := []) (nh := []) (G := [(258, aS dB)]) (cI (GOk.nil)) (aA (by kernel_rfl)) (Fin.one_ok _ _ _ _) ?_
 rintro ⟨⟨v0, v1, v2, _, v3, v4, _⟩, ⟨d, _⟩⟩ y hy
 refine ⟨_, aZ (eX := fun (st : Int × List Pr) => (let v4 := st.1; let d := st.2; ((v0, v1, v2, (), v3, v4, ()), (d, ())) : VhL gI × OShL gJ)) (body := dE v1 v2 v3) (fun st =>?_) _ (v4, d) y hy⟩
 obtain ⟨v4, d⟩ := st
 refine (aKu ..).trans ?_
 unfold dE
 repeat' (first|refine aP (fun _ =>?_) (fun _ =>?_)|(refine cD (fun _ =>?_); try dsimp only [aH, cond_true, cond_false, Bool.not_true, Bool.not_false, one, mI, eU]) | rfl)
abbrev iQ : List Vh := [.s (.ownC 0), vi, vi, .clo 258 [], vi]
abbrev iR : List OSh := aX
noncomputable abbrev insPrL0fin : Fin := (Fin.one 1 Tryz.f296.ntmps (.exit 0) [0] [.s (.ownC 0)] aX)
noncomputable abbrev tJ (sp : VhL iQ × OShL iR → Option insPrL0fin.Y) : LCon := LCon.of Tryz.f296.ntmps [0, 1, 2, 3, 8] iQ iR insPrL0fin sp
def cP (v1 v2 : Int) (st : Int × List Pr) : T ((Int × List Pr) ⊕ (List Pr)) :=
 let v3 := st.1
 let d := st.2
 bif decide (v3 < v2) then
 (T.loop (dE v1 v2 v3) 4611686018427387904 (v3, d)).bind fun x0 =>
 .ret (Sum.inl (w64 (v3 + 1), x0))
 else
 .ret (Sum.inr d)
@[reducible] def tK : PIf (VhL iQ × OShL iR) insPrL0fin.Y where
 α := List Pr
 tr x := T.loop (cP x.1.2.1 x.1.2.2.1) FU (x.1.2.2.2.2.1, x.2.1)
 enc x a := ((x.1.1, ()), (a, ()))
theorem aKv (sp_cmpPr : cmpPr_T) (sp_insPrL1 : VhL gI × OShL gJ → Option insPrL1fin.Y) (v0 : Value) (v1 v2 v3 : Int) (d : List Pr) : gY 1 Tryz.f296 0 [0, 1, 2, 3, 8] iQ iR insPrL0fin [(258, aS sp_cmpPr)] [(4, mJ sp_insPrL1)] [] (((v0, v1, v2, (), v3, ()), (d, ())) : VhL iQ × OShL iR) = (bif decide (v3 < v2) then (sp_insPrL1 ((v0, v1, v2, (), v3, v3, ()), d, ())).bind fun val => some (Sum.inl ((val.1.1, val.1.2.1, val.1.2.2.1, (), w64 (val.1.2.2.2.2.1 + 1), ()), val.2.1, ()))
else some (Sum.inr ((v0, ()), d, ()))) := by kernel_rfl
theorem aRa : LOk Tryz.prog gl 1 (tJ (PIf.spec tK)) (bE (body Tryz.f296) 0) := by
 refine lwk (Lc := [(4, mJ (PIf.spec mK))]) (nh := []) (G := [(258, aS dB)]) (cI (GOk.nil)) (bD (bs := [bE (body Tryz.f296) 1]) (by kernel_rfl) ⟨bB (q := (4, mJ (PIf.spec mK))) (by kernel_rfl) aCp, trivial⟩) (Fin.one_ok _ _ _ _) ?_
 rintro ⟨⟨v0, v1, v2, _, v3, _⟩, ⟨d, _⟩⟩ y hy
 refine ⟨_, aZ (eX := fun (st : Int × List Pr) => (let v3 := st.1; let d := st.2; ((v0, v1, v2, (), v3, ()), (d, ())) : VhL iQ × OShL iR)) (body := cP v1 v2) (fun st =>?_) _ (v3, d) y hy⟩
 obtain ⟨v3, d⟩ := st
 refine (aKv ..).trans ?_
 unfold cP
 repeat' (first|refine aP (fun _ =>?_) (fun _ =>?_)|(refine cD (fun _ =>?_); try dsimp only [aH, cond_true, cond_false, Bool.not_true, Bool.not_false, one, mI, eU, mK]) | rfl)
def nH (a b : Int) (d : List Pr) : T (List Pr) :=
 (T.loop (cP a b) 4611686018427387904 (w64 (a + 1), d)).bind fun x0 =>
 .ret x0
@[reducible] def bIc : PIf (VhL [.s (.ownC 0), vi, vi, .clo 258 []] × OShL aX) (VhL [.s (.ownC 0)] × OShL aX) where
 α := List Pr
 tr x := nH x.1.2.1 x.1.2.2.1 x.2.1
 enc x a := ((x.1.1, ()), (a, ()))
@[reducible] def wL : PIf (VhL [.s (.own 0), vi, vi, .clo 258 []] × OShL aX) (VhL [] × OShL aX) where
 α := List Pr
 tr x := nH x.1.2.1 x.1.2.2.1 x.2.1
 enc x a := ((), (a, ()))
abbrev insPr_T : Type := VhL [.s (.own 0), vi, vi, .clo 258 []] × OShL aX → Option (VhL [] × OShL aX)
noncomputable abbrev kC (sp : insPr_T) : Con := Con.fx [vi, vi, .clo 258 []] aX [] aX sp
noncomputable abbrev wM : insPr_T := PIf.spec wL
theorem aYs (p0 : cmpPr_T) (p1 : VhL gI × OShL gJ → Option insPrL1fin.Y) (p2 : VhL iQ × OShL iR → Option insPrL0fin.Y) (c0 : Value) (a b : Int) (d : List Pr) : vX Tryz.f296 [vi, vi, .clo 258 []] aX [] aX [(258, aS p0)] [(4, mJ p1), (1, tJ p2)] [] (((c0, a, b, (), ()), (d, ())) : VhL [.s (.ownC 0), vi, vi, .clo 258 []] × OShL aX) = ((p2 ((c0, a, b, (), w64 (a + 1), ()), d, ())).bind fun z => some ((z.1.1, ()), z.2.1, ())) := by kernel_rfl
theorem bDp : aK Tryz.prog gl 296 (kC wM) := by
 refine cxk (I := bIc) (J := wL) (fn := Tryz.f296) (G := [(258, aS dB)]) (cI (GOk.nil)) (by kernel_rfl) (by kernel_rfl) (Lc := [(4, mJ (PIf.spec mK)), (1, tJ (PIf.spec tK))]) (nh := []) (bD (bs := [bE (body Tryz.f296) 0, bE (body Tryz.f296) 1]) (by kernel_rfl) ⟨bB (q := (1, tJ (PIf.spec tK))) (by kernel_rfl) aRa, bB (q := (4, mJ (PIf.spec mK))) (by kernel_rfl) aCp, trivial⟩) ?_ (fun c0 x o y h => by obtain ⟨a, h1, rfl⟩ := Option.map_eq_some_iff.1 h; exact Option.map_eq_some_iff.2 ⟨a, h1, rfl⟩)
 rintro ⟨⟨c0, a, b, _, _⟩, ⟨d, _⟩⟩
 refine (aYs ..).trans ?_
 show _ = ((nH a b d).val).map _
 unfold nH
 repeat' (first|(refine cD (fun _ =>?_); try dsimp only [aH, cond_true, cond_false, Bool.not_true, Bool.not_false, one, mI, eU, mK, tK]) | rfl)
theorem aAd {G : List (Nat × Con)} (h : GOk Tryz.prog gl G) : GOk Tryz.prog gl ((296, kC wM) :: G) := GOk.cons ⟨Tryz.f296, body Tryz.f296, by kernel_rfl, by kernel_rfl, by kernel_rfl⟩ bDp h
end Go.Ax.Cd
