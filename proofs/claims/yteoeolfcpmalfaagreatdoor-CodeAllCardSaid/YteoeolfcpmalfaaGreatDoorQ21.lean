/- Merged. -/
import Derived.Shelf.SlGeneric
import Derived.Shelf.SlIterI.Nil
import Derived.Shelf.SortM.Plain
import Derived.Shelf.SortM.SortNone
import Derived.Ground.GgzProg
import Derived.Ground.SlgmProg
import Derived.Shelf.Spec.SlicesGrow
import Derived.Ground.Names8Prog
import Derived.Test.YteoeolfcpmalfaaGreatDoorProg
import Derived.Test.YteoeolfcpmalfaaGreatDoorQ20
import Derived.Test.YteoeolfcpmalfaaGreatDoorQ16
namespace Go.Proofs
open Go.Shelf
def Tryz.keysA_ren : Go.Shelf.Ren := ⟨fun | 7 => 120 | 10 => 128 | n => n, fun | 23 => 119 | 26 => 3 | 3 => 4 | 28 => 127 | 0 => 0 | 27 => 126 | 33 => 83 | 4 => 4 | n => n, fun | n => n⟩
theorem Tryz.keysA : Go.Proofs.SlLaysZI.n7 Tryz.prog Tryz.keysA_ren := {
 mixed := by kernel_rfl
 f7 := ⟨Tryz.f120.name, by decide, Tryz.func120.trans (congrArg some (by kernel_rfl))⟩
 f10 := ⟨Tryz.f128.name, by decide, Tryz.func128.trans (congrArg some (by kernel_rfl))⟩
 t0 := Tryz.underlying0
 a0 := Tryz.isAgg0
 z0 := Tryz.sizeOf0
 v0 := Tryz.zeroValue0
 t4 := Tryz.underlying4
 a4 := Tryz.isAgg4
 z4 := Tryz.sizeOf4
 v4 := Tryz.zeroValue4
 t23 := Tryz.underlying119
 a23 := Tryz.isAgg119
 z23 := Tryz.sizeOf119
 v23 := Tryz.zeroValue119
 t26 := Tryz.underlying3
 a26 := Tryz.isAgg3
 z26 := Tryz.sizeOf3
 v26 := Tryz.zeroValue3
 t27 := Tryz.underlying126
 a27 := Tryz.isAgg126
 z27 := Tryz.sizeOf126
 v27 := Tryz.zeroValue126
 t28 := Tryz.underlying127
 a28 := Tryz.isAgg127
 z28 := Tryz.sizeOf127
 v28 := Tryz.zeroValue127
 t33 := Tryz.underlying83
 a33 := Tryz.isAgg83
 z33 := Tryz.sizeOf83
 v33 := Tryz.zeroValue83 }
def Tryz.sortedA_ren : Go.Shelf.Ren := ⟨fun | 6 => 119 | 8 => 126 | 9 => 127 | 11 => 131 | 13 => 133 | 12 => 132 | 23 => 145 | 24 => 146 | 14 => 136 | 15 => 137 | 16 => 138 | 17 => 139 | 18 => 140 | 19 => 141 | 20 => 142 | 21 => 143 | 22 => 144 | 25 => 147 | 26 => 148 | 27 => 149 | 28 => 150 | 29 => 151 | 30 => 116 | 31 => 152 | n => n, fun | 26 => 3 | 28 => 127 | 24 => 26 | 0 => 0 | 3 => 3 | 37 => 134 | 48 => 147 | 50 => 149 | 4 => 4 | 40 => 140 | 39 => 139 | 45 => 144 | 5 => 5 | 9 => 9 | 51 => 150 | 55 => 154 | 57 => 156 | 58 => 157 | 33 => 83 | n => n, fun | n => n⟩
theorem Tryz.sortedA : Go.Proofs.SlLaysZI.n6 Tryz.prog Tryz.sortedA_ren := {
 mixed := by kernel_rfl
 f6 := ⟨Tryz.f119.name, by decide, Tryz.func119.trans (congrArg some (by kernel_rfl))⟩
 f8 := ⟨Tryz.f126.name, by decide, Tryz.func126.trans (congrArg some (by kernel_rfl))⟩
 f11 := ⟨Tryz.f131.name, by decide, Tryz.func131.trans (congrArg some (by kernel_rfl))⟩
 t0 := Tryz.underlying0
 a0 := Tryz.isAgg0
 z0 := Tryz.sizeOf0
 v0 := Tryz.zeroValue0
 t24 := Tryz.underlying26
 a24 := Tryz.isAgg26
 z24 := Tryz.sizeOf26
 v24 := Tryz.zeroValue26
 t26 := Tryz.underlying3
 a26 := Tryz.isAgg3
 z26 := Tryz.sizeOf3
 v26 := Tryz.zeroValue3
 t28 := Tryz.underlying127
 a28 := Tryz.isAgg127
 z28 := Tryz.sizeOf127
 v28 := Tryz.zeroValue127
 i26 := by kernel_rfl }
def Tryz.sortA_ren : Go.Shelf.Ren := ⟨fun | 5 => 127 | 8 => 133 | 7 => 132 | 19 => 145 | 20 => 146 | 10 => 136 | 11 => 137 | 12 => 138 | 13 => 139 | 14 => 140 | 15 => 141 | 16 => 142 | 17 => 143 | 18 => 144 | 30 => 147 | 31 => 148 | 32 => 149 | 33 => 150 | 34 => 151 | 35 => 116 | 40 => 152 | n => n, fun | 23 => 26 | 25 => 3 | 3 => 3 | 32 => 134 | 22 => 26 | 0 => 0 | 44 => 147 | 46 => 149 | 4 => 4 | 36 => 140 | 35 => 139 | 41 => 144 | 5 => 5 | 9 => 9 | 53 => 150 | 57 => 154 | 63 => 156 | 64 => 157 | n => n, fun | n => n⟩
theorem Tryz.sortA : Go.Proofs.SlLaysM.n5 Tryz.prog Tryz.sortA_ren := {
 mixed := by kernel_rfl
 f5 := ⟨Tryz.f127.name, by decide, Tryz.func127.trans (congrArg some (by kernel_rfl))⟩
 f7 := ⟨Tryz.f132.name, by decide, Tryz.func132.trans (congrArg some (by kernel_rfl))⟩
 f8 := Tryz.func133.trans (congrArg some (by kernel_rfl))
 f10 := ⟨Tryz.f136.name, by decide, Tryz.func136.trans (congrArg some (by kernel_rfl))⟩
 f11 := ⟨Tryz.f137.name, by decide, Tryz.func137.trans (congrArg some (by kernel_rfl))⟩
 f12 := ⟨Tryz.f138.name, by decide, Tryz.func138.trans (congrArg some (by kernel_rfl))⟩
 f13 := ⟨Tryz.f139.name, by decide, Tryz.func139.trans (congrArg some (by kernel_rfl))⟩
 f14 := ⟨Tryz.f140.name, by decide, Tryz.func140.trans (congrArg some (by kernel_rfl))⟩
 f15 := ⟨Tryz.f141.name, by decide, Tryz.func141.trans (congrArg some (by kernel_rfl))⟩
 f16 := ⟨Tryz.f142.name, by decide, Tryz.func142.trans (congrArg some (by kernel_rfl))⟩
 f17 := ⟨Tryz.f143.name, by decide, Tryz.func143.trans (congrArg some (by kernel_rfl))⟩
 f18 := ⟨Tryz.f144.name, by decide, Tryz.func144.trans (congrArg some (by kernel_rfl))⟩
 f19 := Tryz.func145.trans (congrArg some (by kernel_rfl))
 f20 := Tryz.func146.trans (congrArg some (by kernel_rfl))
 f30 := ⟨Tryz.f147.name, by decide, Tryz.func147.trans (congrArg some (by kernel_rfl))⟩
 f31 := Tryz.func148.trans (congrArg some (by kernel_rfl))
 f32 := Tryz.func149.trans (congrArg some (by kernel_rfl))
 f33 := ⟨Tryz.f150.name, by decide, Tryz.func150.trans (congrArg some (by kernel_rfl))⟩
 f34 := ⟨Tryz.f151.name, by decide, Tryz.func151.trans (congrArg some (by kernel_rfl))⟩
 f35 := ⟨Tryz.f116.name, by decide, Tryz.func116.trans (congrArg some (by kernel_rfl))⟩
 f40 := ⟨Tryz.f152.name, by decide, Tryz.func152.trans (congrArg some (by kernel_rfl))⟩
 t0 := Tryz.underlying0
 a0 := Tryz.isAgg0
 z0 := Tryz.sizeOf0
 v0 := Tryz.zeroValue0
 t3 := Tryz.underlying3
 a3 := Tryz.isAgg3
 z3 := Tryz.sizeOf3
 v3 := Tryz.zeroValue3
 t4 := Tryz.underlying4
 a4 := Tryz.isAgg4
 z4 := Tryz.sizeOf4
 v4 := Tryz.zeroValue4
 t5 := Tryz.underlying5
 a5 := Tryz.isAgg5
 z5 := Tryz.sizeOf5
 v5 := Tryz.zeroValue5
 t9 := Tryz.underlying9
 a9 := Tryz.isAgg9
 z9 := Tryz.sizeOf9
 v9 := Tryz.zeroValue9
 t22 := Tryz.underlying26
 a22 := Tryz.isAgg26
 z22 := Tryz.sizeOf26
 v22 := Tryz.zeroValue26
 t23 := Tryz.underlying26
 a23 := Tryz.isAgg26
 z23 := Tryz.sizeOf26
 v23 := Tryz.zeroValue26
 t25 := Tryz.underlying3
 a25 := Tryz.isAgg3
 z25 := Tryz.sizeOf3
 v25 := Tryz.zeroValue3
 t32 := Tryz.underlying134
 a32 := Tryz.isAgg134
 z32 := Tryz.sizeOf134
 v32 := Tryz.zeroValue134
 t35 := Tryz.underlying139
 a35 := Tryz.isAgg139
 z35 := Tryz.sizeOf139
 v35 := Tryz.zeroValue139
 t36 := Tryz.underlying140
 a36 := Tryz.isAgg140
 z36 := Tryz.sizeOf140
 v36 := Tryz.zeroValue140
 t41 := Tryz.underlying144
 a41 := Tryz.isAgg144
 z41 := Tryz.sizeOf144
 v41 := Tryz.zeroValue144
 t44 := Tryz.underlying147
 a44 := Tryz.isAgg147
 z44 := Tryz.sizeOf147
 v44 := Tryz.zeroValue147
 t46 := Tryz.underlying149
 a46 := Tryz.isAgg149
 z46 := Tryz.sizeOf149
 v46 := Tryz.zeroValue149
 t53 := Tryz.underlying150
 a53 := Tryz.isAgg150
 z53 := Tryz.sizeOf150
 v53 := Tryz.zeroValue150
 t57 := Tryz.underlying154
 a57 := Tryz.isAgg154
 z57 := Tryz.sizeOf154
 v57 := Tryz.zeroValue154
 t63 := Tryz.underlying156
 a63 := Tryz.isAgg156
 z63 := Tryz.sizeOf156
 v63 := Tryz.zeroValue156
 t64 := Tryz.underlying157
 a64 := Tryz.isAgg157
 z64 := Tryz.sizeOf157
 v64 := Tryz.zeroValue157 }
end Go.Proofs
namespace Go.Ax.Cd
open Go.RowKit Go.Maps Go.Proofs Go.Proofs.YteoeolfcpmalfaaGreatDoor Go.Shelf Go.Sort
theorem mem_dedupL (l : List Int) (x : Int) : x ∈ dedupL l ↔ x ∈ l := by
 induction l with
 | nil => simp [dedupL]
 | cons a l ih =>
  rw [dedupL]
  split
  ·rename_i h
   rw [ih, List.mem_cons]
   exact ⟨.inr, fun h2 => h2.elim (fun e => by rw [e]; exact List.contains_iff_mem.1 h) id⟩
  ·rw [List.mem_cons, List.mem_cons, ih]
theorem nodup_dedupL (l : List Int) : (dedupL l).Nodup := by
 induction l with
 | nil => exact List.nodup_nil
 | cons a l ih =>
  rw [dedupL]
  split
  ·exact ih
  ·rename_i h
   rw [List.nodup_cons, mem_dedupL]
   exact ⟨fun hm => h (List.contains_iff_mem.2 hm), ih⟩
theorem Tryz.sortsA (m : Nat) : AnyZI.SortsIn Tryz.prog Tryz.sortedA_ren Fence.wide m :=
 ⟨fun blk off cap ss W hH hblk hsz => callsIn_wide.2 (AnyM.slices_Sort_int Tryz.sortA blk off cap ss W hH hblk hsz),
  fun p cap W => callsIn_wide.2 (AnyM.slices_Sort_int_none Tryz.sortA p cap W)⟩
set_option maxHeartbeats 8000000 in
set_option maxRecDepth 100000 in
theorem set_calls (A0 : Option Addr) (c0 : Nat) (l0 : List Int) (w : World) (hr0 : RI w A0 l0) (hc0 : l0.length ≤ c0) (hh : l0.length ≤ 17592186044416 ∧ (∀ x ∈ l0, (Lit.int .i64 x).wf = true)) :
  Calls Tryz.prog 112 #[.slice A0 l0.length c0] w fun e w' => ∃ v0_ : Value, e = .returned (v0_) ∧ w'.ownsRow w.heap.size 3 1 v0_ (ordSet l0).length ((ordSet l0).map (Value.int .i64)) ∧ (ordSet l0 = [] → v0_ = .slice none 0 0) ∧ Below w.heap.size w w' := by
 have HR0 := Aside0.mk hr0
 have HC0 := Aside0.mk hc0
 clear hr0 hc0
 go_enter Tryz.func112, Tryz.ntmps112
 go_wp2_with fail
 refine (met_calls A0 c0 l0 w HR0.out HC0.out (by omega) hh.2).mono ?_
 rintro e w1 ⟨rfl, ⟨D, hown, hS⟩, hb1⟩
 have hsz1 := below_size hb1
 have hk : Tryz.prog.underlying 3 = some (.int .i64) := Tryz.underlying3
 obtain ⟨hnd, hmem⟩ := IMap.keys_of hk hown
 have hszD : Maps.size D ≤ l0.length := hown.size_le
 have hbl := hown.lt
 have hseq : SeqGives Fence.wide 2 Tryz.prog 128 #[.pointer (some ⟨w1.heap.size, 0, none⟩)] encZ (fun ss => ss.Perm (intKeys D)) (Maps.size D) (w1.alloc (.cells #[.map (some w.heap.size)] 119)) :=
  AnyZI.keys_gives (ρ := Tryz.keysA_ren) { Tryz.keysA with } Fence.wide _ trivial rfl (by omega) w1.heap.size w.heap.size l0.length D _ (by simp) (by simp) (by
   obtain ⟨es, clock, hb, Ft, hs, hD⟩ := hown
   exact ⟨es, clock, (Below.heap_alloc _ _ w.heap.size hbl).trans hb, Ft, hs, hD⟩)
 have cK : Calls Tryz.prog 120 #[.map (some w.heap.size)] w1 fun e w' => e = .returned (.func (.func 128) #[] #[.pointer (some ⟨w1.heap.size, 0, none⟩)]) ∧ w' = w1.alloc (.cells #[.map (some w.heap.size)] 119) := (callsIn_wide (n := 5)).1 (AnyZI.keys_in Tryz.keysA Fence.wide 5 trivial rfl _ w1)
 have cS := AnyZI.sorted_in Tryz.sortedA Fence.wide 5 trivial trivial trivial trivial rfl (by omega) (Tryz.sortsA _) (enters_of Tryz.func127 (by kernel_rfl) rfl) 128 #[.pointer (some ⟨w1.heap.size, 0, none⟩)] trivial (enters_of Tryz.func128 (by kernel_rfl) rfl) _ _ (by unfold maxLen; omega) (by omega) _ hseq
 change CallsIn _ _ Tryz.prog 119 _ _ _ at cS
 have cS := callsIn_wide.1 cS
 have HD := Aside0.mk (And.intro hnd hmem)
 have HS := Aside0.mk hS
 have HB1 := Aside0.mk hb1
 clear hown hseq hnd hmem hS hb1 hszD hbl hk
 go_wp2_with fail
 refine cK.mono ?_
 rintro e w2 ⟨rfl, rfl⟩
 go_wp2_with fail
 refine cS.mono ?_
 rintro e w3 ⟨v, ss, rfl, hp, hrow, hnil, hb3⟩
 have hms : ss.mergeSort (fun x y => decide (x ≤ y)) = ordSet l0 := by
  refine mergeSort_of_perm_i (hp.trans ?_)
  refine (List.perm_ext_iff_of_nodup HD.out.1 (nodup_dedupL l0)).2 fun x =>?_
  rw [HD.out.2, mem_dedupL, (HS.out x).2, List.contains_iff_mem]
 have hlen : ss.length = (ordSet l0).length := by rw [← hms, List.length_mergeSort]
 have hba : Below w.heap.size w (w1.alloc (.cells #[.map (some w.heap.size)] 119)) := HB1.out.alloc hsz1 _
 rw [hms, hlen] at hrow
 have hR := ownsRow_base_a hrow (base' := w.heap.size) (by simp; omega)
 have hn : ordSet l0 = [] → v = .slice none 0 0 := fun e => hnil.2 (by
  rw [e] at hlen
  exact List.length_eq_zero_iff.1 hlen)
 have HV := Aside0.mk hR
 have HN := Aside0.mk hn
 have HB := Aside0.mk (below_step hba hb3)
 clear hR hba hb3 hms hlen hp hrow hnil cK cS hn
 go_wp2
 go_ret
 exact ⟨v, rfl, HV.out, HN.out, HB.out⟩
theorem rd_own {w w' : World} {F : Nat → Prop} {xs : List Int} {v : Value} (h : w'.ownsRow w.heap.size 3 1 v xs.length (xs.map (Value.int .i64))) : Rd w' (fun b => F b ∨ blk v = some b) (.sl .int) xs [v] ∧ ∀ b, blk v = some b → w.heap.size ≤ b ∧ b < w'.heap.size := by
 obtain ⟨_, ⟨rfl, hn⟩ | ⟨g, cap, cur, rfl, hg, hb, hc, _, hs, ht⟩⟩ := h
 ·obtain rfl := List.length_eq_zero_iff.1 hn
  exact ⟨.nil _, fun b h => by cases h⟩
 ·refine ⟨.sl .int xs g 0 cap (fun i => [.int .i64 (xs.getD i 0)]) (.inr rfl) hc (fun i hi =>?_) (fun _ _ => rfl) (fun i j u hi hj =>?_), fun b h =>?_⟩
  ·rw [List.getD_eq_getElem?_getD, List.getElem?_eq_getElem hi]
   exact .int _
  ·rcases j with _ | j
   ·simp only [List.getElem?_cons_zero, Option.some.injEq] at hj
    subst hj
    simp only [EK.sz, Nat.zero_add, Nat.mul_one, Nat.add_zero, World.cell?, hb]
    have h2 : (cur.toList.take (xs.length * 1))[i]? = some (.int .i64 (xs.getD i 0)) := by
     rw [ht, List.getElem?_map, List.getElem?_eq_getElem hi, List.getD_eq_getElem?_getD, List.getElem?_eq_getElem hi]
     rfl
    rw [List.getElem?_take, if_pos (by omega), Array.getElem?_toList] at h2
    simp [h2]
   ·simp at hj
  ·obtain rfl : g = b := by simpa [blk] using h
   exact ⟨hg, (Array.getElem?_eq_some_iff.1 hb).1⟩
theorem RI.of {w : World} {B : Nat → Prop} {l : List Int} {v : Value} (h : Rd w B (.sl .int) l [v]) : ∃ A cap, v = .slice A l.length cap ∧ l.length ≤ cap ∧ RI w A l := by
 obtain ⟨A, cap, rfl, hc⟩ := h.slice
 refine ⟨A, cap, rfl, hc, fun i hi =>?_⟩
 cases h with
 | nil => exact nomatch hi
 | sl e xs b o cap rows hF hc hr hz hw =>
  refine ⟨_, rfl, ?_⟩
  have h1 := hr i hi
  generalize hx : rows i = row at h1
  cases h1
  have := hw i 0 (.int .i64 l[i]) hi (by rw [hx]; rfl)
  simp only [EK.sz, Nat.mul_one, Nat.add_zero] at this
  rw [← this]
  simp only [Addr.add]
  split
  ·rename_i h
   simp [h]
  ·rfl
theorem fresh_end {w w' : World} {ρ : List Value} {F L N : Nat → Prop} (hR : RepH ρ F L [] w) (hb : Below w.heap.size w w') (hN : ∀ b, N b → w.heap.size ≤ b ∧ b < w'.heap.size) :
  RepH ρ (fun b => F b ∨ N b) L [] w' ∧ Stp w (Own ρ []) F w' (Own ρ []) (fun b => F b ∨ N b) := by
 have ho : ∀ b, ¬ Own ρ [] b := by
  rintro b ⟨n, o, v, h, _⟩
  cases h
 refine ⟨⟨hR.len, fun n o v h => (nomatch h), fun n m o o' v v' b h => (nomatch h), fun b h => ⟨?_, ho b⟩⟩, ⟨⟨hb.os, hb.tape, hb.output, hb.size, fun k hk _ => hb.block k hk⟩, fun b h => .inl h, fun b h => (ho b h).elim, fun b h => h.imp id (fun h => .inr (hN b h).1)⟩⟩
 rcases h with (h | h) | h
 ·exact Nat.lt_of_lt_of_le (hR.froz b (.inl h)).1 hb.size
 ·exact (hN b h).2
 ·exact Nat.lt_of_lt_of_le (hR.froz b (.inr h)).1 hb.size
abbrev vl : Vh := .s (.lent .int)
abbrev vh : Vh := .s (.sln .int)
def ordG (l : List Int) : Bool := decide (l.length ≤ 1000000) && l.all (fun x => decide (-9223372036854775808 ≤ x) && decide (x ≤ 9223372036854775807))
theorem ordG_wf {l : List Int} (h : ordG l = true) : l.length ≤ 1000000 ∧ ∀ x ∈ l, (Lit.int .i64 x).wf = true := by
 unfold ordG at h
 rw [Bool.and_eq_true, List.all_eq_true] at h
 refine ⟨of_decide_eq_true h.1, fun x hx =>?_⟩
 have := h.2 x hx
 rw [Bool.and_eq_true] at this
 have h1 := of_decide_eq_true this.1
 have h2 := of_decide_eq_true this.2
 have e1 : IntKind.i64.min = -9223372036854775808 := rfl
 have e2 : IntKind.i64.max = 9223372036854775807 := rfl
 simp only [Lit.wf, e1, e2, Bool.and_eq_true, decide_eq_true_eq]
 exact ⟨h1, h2⟩
@[reducible] def ordSetI : Ifc (VhL [vl] × OShL []) (VhL [vh] × OShL []) where
 α := List Int
 tr x := T.gret (ordG x.1.1) (ordSet x.1.1)
 got _ := []
 did _ := []
 enc _ a _ := ((a, ()), ())
 stop _ _ := (([], ()), ())
theorem nil_of_dec {h : List AObj} (hd : OShL.dec [] h = some ()) : h = [] := by
 cases h with
 | nil => rfl
 | cons a l => cases hd
theorem ordSet_g : Callable Tryz.prog 112 := ⟨Tryz.f112, body Tryz.f112, by kernel_rfl, by kernel_rfl, by kernel_rfl⟩
theorem ordSet_ok : Sound Tryz.prog gl 112 (Con.of [vl] [] [vh] [] (Ifc.spec ordSetI)) := by
 rintro av h ⟨⟨l, _⟩, _⟩ y hd hy ρ F L w us hR hv hg
 obtain ⟨x1, h1, hd⟩ := Option.bind_eq_some_iff.1 hd
 obtain ⟨x2, h2, hd⟩ := Option.bind_eq_some_iff.1 hd
 cases hd
 obtain rfl := nil_of_dec h2
 have hvs := VhL.sound h1 hv
 obtain ⟨us, rfl⟩ : ∃ u : List Value, us = u.toArray := ⟨us.toList, by simp⟩
 have hl := hvs.length
 match us, hl, hvs with
 | [v], _, hvs =>
  have hvs' : VRs ρ w F (Bx F L) [.bsl .int l] [v] := hvs
  simp only [VRs, VR, and_true] at hvs'
  obtain ⟨A, cap, rfl, hcap, hRI⟩ := RI.of hvs'
  have hy2 : outG (fun a _ => (((a, ()), ()) : VhL [vh] × OShL [])) (fun _ => (([], ()), ())) ((T.gret (ordG l) (ordSet l)).exec [] []) = some y := hy
  by_cases hgd : ordG l = true
  ·rw [hgd] at hy2
   cases hy2
   obtain ⟨g1, g2⟩ := ordG_wf hgd
   refine (set_calls A cap l w hRI hcap ⟨by omega, g2⟩).mono ?_
   rintro e w' ⟨v, rfl, hrow, hnil, hb⟩
   obtain ⟨k1, k2⟩ := rd_own (F := F) hrow
   obtain ⟨k3, k4⟩ := fresh_end hR hb k2
   exact ⟨ρ, _, ⟨v, rfl, k1, hnil⟩, k3, k4, .refl _, fun i hi => nomatch hi⟩
  ·rw [Bool.not_eq_true] at hgd
   rw [hgd] at hy2
   cases hy2
 | [], hl, _ => simp [VhL.enc] at hl
 | _ :: _ :: _, hl, _ => simp [VhL.enc] at hl
open Go.RowKit Go.Maps Go.Proofs Go.Proofs.YteoeolfcpmalfaaGreatDoor
set_option maxHeartbeats 8000000 in
set_option maxRecDepth 100000 in
theorem within_calls (A0 : Option Addr) (c0 : Nat) (l0 : List Int) (A1 : Option Addr) (c1 : Nat) (l1 : List Int) (w : World) (hr0 : RI w A0 l0) (hc0 : l0.length ≤ c0) (hr1 : RI w A1 l1) (hc1 : l1.length ≤ c1)
  (hl0 : l0.length ≤ 4611686018427387903) (hw0 : ∀ x ∈ l0, (Lit.int .i64 x).wf = true) (hl1 : l1.length ≤ 4611686018427387903) (hw1 : ∀ x ∈ l1, (Lit.int .i64 x).wf = true) :
  Calls Tryz.prog 83 #[.slice A0 l0.length c0, .slice A1 l1.length c1] w fun e w' => e = .returned (.bool (l0.all (fun x => l1.contains x))) ∧ Below w.heap.size w w' := by
 obtain ⟨R, hR⟩ : ∃ R, l0.all (fun x => l1.contains x) = R := ⟨_, rfl⟩
 rw [hR]
 have HRR := Aside0.mk hR
 clear hR
 have HR0 := Aside0.mk hr0
 have HC0 := Aside0.mk hc0
 have HR1 := Aside0.mk hr1
 have HC1 := Aside0.mk hc1
 have HW0 := Aside0.mk hw0
 have HW1 := Aside0.mk hw1
 clear hr0 hc0 hr1 hc1 hw0 hw1
 go_enter Tryz.func83, Tryz.ntmps83
 go_wp2_with fail
 refine (met_calls A1 c1 l1 w HR1.out HC1.out hl1 HW1.out).mono ?_
 rintro e w1 ⟨rfl, hm1, hb1⟩
 have HM1 := Aside0.mk hm1
 have HB1 := Aside0.mk hb1
 clear hm1 hb1
 go_wp2_with fail
 refine (met_calls A0 c0 l0 w1 (HR0.out.below HB1.out) HC0.out hl0 HW0.out).mono ?_
 rintro e w2 ⟨rfl, ⟨D, hown, hS⟩, hb2⟩
 have hs1 := HM1.out.lt
 have hs2 := hown.lt
 have hb12 := below_step HB1.out hb2
 go_wp2_with (first | (at_range; refine wpList_range_own _ rfl _ 119 rfl 3 4 (int_keyed Tryz.underlying3) Tryz.underlying119 _ w1.heap.size l0.length D rfl hown ?_; intro w3 hrg3 hg3 hs3))
 have HM3 : Aside0 (IMap.BMap Tryz.prog 3 4 w3 w.heap.size l1.length (fun x => l1.contains x)) := ⟨(HM1.out.below hb2).kept hg3 (by simp)⟩
 have HB3 : Aside0 (Below w.heap.size w w3) := ⟨hb12.grown hg3 (below_size hb12) (by simp)⟩
 have HS := Aside0.mk hS
 have HRG3 := Aside0.mk hrg3
 clear hown hS hb2 hb12 hg3 hrg3 hs3
 go_frame
 go_loopw [13] (fun _ wr => ∃ (left : Lit → Bool) (cnt : Nat), Aside0 (wr.ranges Tryz.prog 3 (plainElem Tryz.prog 4) w1.heap.size w2.heap.size l0.length D left cnt) ∧ Aside0 (IMap.BMap Tryz.prog 3 4 wr w.heap.size l1.length (fun x => l1.contains x)) ∧ Aside0 (Below w.heap.size w wr) ∧ Aside0 (∀ x : Int, has D (.int .i64 x) = true → left (.int .i64 x) = false → l1.contains x = true)) (fun _ wr => wr.rangeLeft w1.heap.size w2.heap.size)
 case atStart => exact ⟨_, _, HRG3, HM3, HB3, ⟨fun x h1 h2 => by rw [h1] at h2; cases h2⟩⟩
 case round =>
  clear HRG3 HM3 HB3
  obtain ⟨left, cnt, HRG, HM, HB, HL⟩ := hrel
  go_wp2_with (first | (at_next; refine IMap.wpList_next rfl _ rfl Tryz.underlying3 w1.heap.size w2.heap.size l0.length D left cnt rfl HRG.out ?_ ?_))
  ·intro hl0'
   have hRt : true = R := by
    rw [← HRR.out]
    symm
    rw [List.all_eq_true]
    intro x hx
    exact HL.out x (by rw [(HS.out x).2, List.contains_iff_mem]; exact hx) (hl0' _)
   have HRT := Aside0.mk hRt
   clear hRt hl0'
   go_wp2
   go_ret
   obtain rfl := HRT.out
   exact ⟨rfl, HB.out⟩
  ·intro x v w4 cnt4 hwx hlk hh hrg4 hlt4 hg4 hen
   have HM4 : Aside0 (IMap.BMap Tryz.prog 3 4 w4 w.heap.size l1.length (fun x => l1.contains x)) := ⟨HM.out.kept hg4 (by simp; omega)⟩
   have HB4 : Aside0 (Below w.heap.size w w4) := ⟨HB.out.grown hg4 (below_size HB.out) (fun k e => by cases e; omega)⟩
   have hhas : l0.contains x = true := by rw [← (HS.out x).2]; exact hh
   have hlook := HM4.out.lookup Tryz.underlying3 Tryz.underlying4 Tryz.underlying119 (Tryz.zeroValue4 w4) x hwx
   have HRG4 := Aside0.mk hrg4
   have HH := Aside0.mk hhas
   clear hrg4 hh hhas hlk hg4
   cases hc : l1.contains x with
   | true =>
    rw [hc] at hlook
    have HC := Aside0.mk hc
    clear hc
    go_wp2
    go_roundw
    case rel => exact ⟨_, cnt4, HRG4, HM4, HB4, ⟨fun z h1 h2 => by
     by_cases e : z = x
     ·rw [e]; exact HC.out
     ·refine HL.out z h1 ?_
      simpa [Lit.sameKey, e] using h2⟩⟩
    case measure => rw [HRG4.out.left_eq, HRG.out.left_eq]; exact hlt4
   | false =>
    rw [hc] at hlook
    have hRf : false = R := by
     rw [← HRR.out]
     symm
     rw [Bool.eq_false_iff, ne_eq, List.all_eq_true]
     intro hall
     have := hall x (List.contains_iff_mem.1 HH.out)
     rw [hc] at this
     cases this
    have HRF := Aside0.mk hRf
    clear hRf hc
    go_wp2
    go_ret
    obtain rfl := HRF.out
    exact ⟨rfl, HB4.out⟩
def ordIn (a b : List Int) : Bool := a.all (fun x => b.contains x)
@[reducible] def ordWithinI : Ifc (VhL [vl, vl] × OShL []) (VhL [vb] × OShL []) where
 α := Bool
 tr x := T.gret (ordG x.1.1 && ordG x.1.2.1) (ordIn x.1.1 x.1.2.1)
 got _ := []
 did _ := []
 enc _ a _ := ((a, ()), ())
 stop _ _ := ((false, ()), ())
theorem ordWithin_g : Callable Tryz.prog 83 := ⟨Tryz.f83, body Tryz.f83, by kernel_rfl, by kernel_rfl, by kernel_rfl⟩
theorem ordWithin_ok : Sound Tryz.prog gl 83 (Con.of [vl, vl] [] [vb] [] (Ifc.spec ordWithinI)) := by
 rintro av h ⟨⟨l0, l1, _⟩, _⟩ y hd hy ρ F L w us hR hv hg
 obtain ⟨x1, h1, hd⟩ := Option.bind_eq_some_iff.1 hd
 obtain ⟨x2, h2, hd⟩ := Option.bind_eq_some_iff.1 hd
 cases hd
 obtain rfl := nil_of_dec h2
 have hvs := VhL.sound h1 hv
 obtain ⟨us, rfl⟩ : ∃ u : List Value, us = u.toArray := ⟨us.toList, by simp⟩
 have hl := hvs.length
 match us, hl, hvs with
 | [v0, v1], _, hvs =>
  have hvs' : VRs ρ w F (Bx F L) [.bsl .int l0, .bsl .int l1] [v0, v1] := hvs
  simp only [VRs, VR, and_true] at hvs'
  obtain ⟨A0, cap0, rfl, hcap0, hRI0⟩ := RI.of hvs'.1
  obtain ⟨A1, cap1, rfl, hcap1, hRI1⟩ := RI.of hvs'.2
  have hy2 : outG (fun a _ => (((a, ()), ()) : VhL [vb] × OShL [])) (fun _ => ((false, ()), ())) ((T.gret (ordG l0 && ordG l1) (ordIn l0 l1)).exec [] []) = some y := hy
  by_cases hgd : (ordG l0 && ordG l1) = true
  ·rw [hgd] at hy2
   cases hy2
   rw [Bool.and_eq_true] at hgd
   obtain ⟨g1, g2⟩ := ordG_wf hgd.1
   obtain ⟨g3, g4⟩ := ordG_wf hgd.2
   refine (within_calls A0 cap0 l0 A1 cap1 l1 w hRI0 hcap0 hRI1 hcap1 (by omega) g2 (by omega) g4).mono ?_
   rintro e w' ⟨rfl, hb⟩
   obtain ⟨k3, k4⟩ := fresh_end (N := fun _ => False) hR hb (fun _ h => h.elim)
   refine ⟨ρ, _, ⟨_, rfl, ?_⟩, k3, k4, .refl _, fun i hi => nomatch hi⟩
   show VR _ _ _ _ (.bool (ordIn l0 l1)) _
   simp [VR, ordIn]
  ·rw [Bool.not_eq_true] at hgd
   rw [hgd] at hy2
   cases hy2
 | [], hl, _ => simp [VhL.enc] at hl
 | [_], hl, _ => simp [VhL.enc] at hl
 | _ :: _ :: _ :: _, hl, _ => simp [VhL.enc] at hl
open Go.Proofs
set_option linter.unusedVariables false
set_option maxRecDepth 100000
abbrev cdv1q0 : List OSh := [.arr (.st .pr)]
@[reducible] def isNanII : PIf (VhL [vi] × OShL []) (VhL [vb] × OShL []) where
 α := Bool
 tr x := T.ret ((fun (x : Int) => ((x != x))) x.1.1)
 enc x a := ((a, ()), ())
abbrev isNanI_T : Type := VhL [vi] × OShL [] → Option (VhL [vb] × OShL [])
noncomputable abbrev isNanI_C (sp : isNanI_T) : Con := Con.of [vi] [] [vb] [] sp
noncomputable abbrev isNanIS : isNanI_T := PIf.spec isNanII
theorem isNanI_raw (x : Int) : runN Tryz.f116 [vi] [] [vb] [] [] [] [] (((x, ()), ()) : VhL [vi] × OShL []) = (some ((x != x, ()), ())) := by kernel_rfl
theorem isNanI_ok : Sound Tryz.prog gl 116 (isNanI_C isNanIS) := by
 refine cnk (fn := Tryz.f116) (G := []) (GOk.nil) (by kernel_rfl) (by kernel_rfl) (Lc := []) (nh := []) (noloopN (by kernel_rfl)) ?_
 rintro ⟨⟨x, _⟩, _⟩
 refine (isNanI_raw ..).trans ?_
 rfl
theorem isNanI_k {G : List (Nat × Con)} (h : GOk Tryz.prog gl G) : GOk Tryz.prog gl ((116, isNanI_C isNanIS) :: G) := GOk.cons ⟨Tryz.f116, body Tryz.f116, by kernel_rfl, by kernel_rfl, by kernel_rfl⟩ isNanI_ok h
def cmpITr (x y : Int) : T (Int) :=
 bif x != x then
 bif y != y then
 .ret 0
 else
 .ret (Int.negSucc 0)
 else
 bif y != y then
 .ret 1
 else
 bif decide (x < y) then
 .ret (Int.negSucc 0)
 else
 bif decide (x > y) then
 .ret 1
 else
 .ret 0
@[reducible] def cmpII : PIf (VhL [vi, vi] × OShL []) (VhL [vi] × OShL []) where
 α := Int
 tr x := cmpITr x.1.1 x.1.2.1
 enc x a := ((a, ()), ())
abbrev cmpI_T : Type := VhL [vi, vi] × OShL [] → Option (VhL [vi] × OShL [])
noncomputable abbrev cmpI_C (sp : cmpI_T) : Con := Con.of [vi, vi] [] [vi] [] sp
noncomputable abbrev cmpIS : cmpI_T := PIf.spec cmpII
theorem cmpI_raw (p0 : isNanI_T) (x y : Int) : runN Tryz.f94 [vi, vi] [] [vi] [] [(116, isNanI_C p0)] [] [] (((x, y, ()), ()) : VhL [vi, vi] × OShL []) = ((p0 ((x, ()), ())).bind fun z => (p0 ((y, ()), ())).bind fun z1 => bif z.1.1 then bif z1.1.1 then some ((0, ()), ()) else some ((Int.negSucc 0, ()), ()) else bif z1.1.1 then some ((1, ()), ()) else bif decide (x < y) then some ((Int.negSucc 0, ()), ()) else bif decide (x > y) then some ((1, ()), ()) else some ((0, ()), ())) := by kernel_rfl
theorem cmpI_ok : Sound Tryz.prog gl 94 (cmpI_C cmpIS) := by
 refine cnk (fn := Tryz.f94) (G := [(116, isNanI_C isNanIS)]) (isNanI_k (GOk.nil)) (by kernel_rfl) (by kernel_rfl) (Lc := []) (nh := []) (noloopN (by kernel_rfl)) ?_
 rintro ⟨⟨x, y, _⟩, _⟩
 refine (cmpI_raw ..).trans ?_
 show _ = ((cmpITr x y).val).map _
 unfold cmpITr
 repeat' (first|refine cond_outP (fun _ =>?_) (fun _ =>?_)|(refine (retP (by with_reducible rfl)).trans ?_; try dsimp only [selim, cond_true, cond_false, Bool.not_true, Bool.not_false, one, mI, isNanII]) | rfl)
theorem cmpI_k {G : List (Nat × Con)} (h : GOk Tryz.prog gl G) : GOk Tryz.prog gl ((94, cmpI_C cmpIS) :: G) := GOk.cons ⟨Tryz.f94, body Tryz.f94, by kernel_rfl, by kernel_rfl, by kernel_rfl⟩ cmpI_ok h
def cmpPrTr (a b : Pr) : T (Int) :=
 (cmpITr a.k b.k).bind fun x0 =>
 .ret x0
@[reducible] def cmpPrI : PIf (VhL [.s (.e (.st .pr)), .s (.e (.st .pr))] × OShL []) (VhL [vi] × OShL []) where
 α := Int
 tr x := cmpPrTr x.1.1 x.1.2.1
 enc x a := ((a, ()), ())
abbrev cmpPr_T : Type := VhL [.s (.e (.st .pr)), .s (.e (.st .pr))] × OShL [] → Option (VhL [vi] × OShL [])
noncomputable abbrev cmpPr_C (sp : cmpPr_T) : Con := Con.of [.s (.e (.st .pr)), .s (.e (.st .pr))] [] [vi] [] sp
noncomputable abbrev cmpPrS : cmpPr_T := PIf.spec cmpPrI
theorem cmpPr_raw (p0 : cmpI_T) (a b : Pr) : runN Tryz.f93 [.s (.e (.st .pr)), .s (.e (.st .pr))] [] [vi] [] [(94, cmpI_C p0)] [] [] (((a, b, ()), ()) : VhL [.s (.e (.st .pr)), .s (.e (.st .pr))] × OShL []) = ((p0 ((a.k, b.k, ()), ())).bind fun z => some ((z.1.1, ()), ())) := by kernel_rfl
theorem cmpPr_ok : Sound Tryz.prog gl 93 (cmpPr_C cmpPrS) := by
 refine cnk (fn := Tryz.f93) (G := [(94, cmpI_C cmpIS)]) (cmpI_k (GOk.nil)) (by kernel_rfl) (by kernel_rfl) (Lc := []) (nh := []) (noloopN (by kernel_rfl)) ?_
 rintro ⟨⟨a, b, _⟩, _⟩
 refine (cmpPr_raw ..).trans ?_
 show _ = ((cmpPrTr a b).val).map _
 unfold cmpPrTr
 repeat' (first|(refine bindP (fun _ =>?_); try dsimp only [selim, cond_true, cond_false, Bool.not_true, Bool.not_false, one, mI, cmpII]) | rfl)
theorem cmpPr_k {G : List (Nat × Con)} (h : GOk Tryz.prog gl G) : GOk Tryz.prog gl ((93, cmpPr_C cmpPrS) :: G) := GOk.cons ⟨Tryz.f93, body Tryz.f93, by kernel_rfl, by kernel_rfl, by kernel_rfl⟩ cmpPr_ok h
abbrev swapPrL0vs : List Vh := [.s (.ownC 0), vi, vi, vi, vi]
abbrev swapPrL0os : List OSh := cdv1q0
noncomputable abbrev swapPrL0fin : Fin := (Fin.one 1 Tryz.f134.ntmps (.exit 0) [0] [.s (.ownC 0)] cdv1q0)
noncomputable abbrev swapPrL0Q (sp : VhL swapPrL0vs × OShL swapPrL0os → Option swapPrL0fin.Y) : LCon := LCon.of Tryz.f134.ntmps [0, 1, 2, 3, 10] swapPrL0vs swapPrL0os swapPrL0fin sp
def swapPrL0Step (v1 v2 v3 : Int) (st : Int × List Pr) : T ((Int × List Pr) ⊕ (List Pr)) :=
 let v4 := st.1
 let d := st.2
 bif decide (v4 < v3) then
 bif inR (w64 (v2 + v4)) d.length then
 bif inR (w64 (v1 + v4)) d.length then
 bif inR (w64 (v1 + v4)) d.length then
 bif inR (w64 (v2 + v4)) (wrE (EK.st SN.pr) d (w64 (v1 + v4)) (rdE (EK.st SN.pr) d (w64 (v2 + v4)))).length then
 .ret (Sum.inl (w64 (v4 + 1), wrE (EK.st SN.pr) (wrE (EK.st SN.pr) d (w64 (v1 + v4)) (rdE (EK.st SN.pr) d (w64 (v2 + v4)))) (w64 (v2 + v4)) (rdE (EK.st SN.pr) d (w64 (v1 + v4)))))
 else
 .bot
 else
 .bot
 else
 .bot
 else
 .bot
 else
 .ret (Sum.inr d)
@[reducible] def swapPrL0I : PIf (VhL swapPrL0vs × OShL swapPrL0os) swapPrL0fin.Y where
 α := List Pr
 tr x := T.loop (swapPrL0Step x.1.2.1 x.1.2.2.1 x.1.2.2.2.1) FU (x.1.2.2.2.2.1, x.2.1)
 enc x a := ((x.1.1, ()), (a, ()))
theorem swapPrL0_raw (sp_cmpPr : cmpPr_T) (v0 : Value) (v1 v2 v3 v4 : Int) (d : List Pr) : runW 1 Tryz.f134 0 [0, 1, 2, 3, 10] swapPrL0vs swapPrL0os swapPrL0fin [(93, cmpPr_C sp_cmpPr)] [] [] (((v0, v1, v2, v3, v4, ()), (d, ())) : VhL swapPrL0vs × OShL swapPrL0os) = (bif decide (v4 < v3) then bif inR (w64 (v2 + v4)) d.length then bif inR (w64 (v1 + v4)) d.length then bif inR (w64 (v1 + v4)) d.length then bif inR (w64 (v2 + v4)) (wrE (EK.st SN.pr) d (w64 (v1 + v4)) (rdE (EK.st SN.pr) d (w64 (v2 + v4)))).length then some (Sum.inl ((v0, v1, v2, v3, w64 (v4 + 1), ()), wrE (EK.st SN.pr) (wrE (EK.st SN.pr) d (w64 (v1 + v4)) (rdE (EK.st SN.pr) d (w64 (v2 + v4)))) (w64 (v2 + v4)) (rdE (EK.st SN.pr) d (w64 (v1 + v4))), ())) else none else none else none else none
else some (Sum.inr ((v0, ()), d, ()))) := by kernel_rfl
theorem swapPrL0_ok : LOk Tryz.prog gl 1 (swapPrL0Q (PIf.spec swapPrL0I)) (getL (body Tryz.f134) 0) := by
 refine lwk (Lc := []) (nh := []) (G := [(93, cmpPr_C cmpPrS)]) (cmpPr_k (GOk.nil)) (noloopN (by kernel_rfl)) (Fin.one_ok _ _ _ _) ?_
 rintro ⟨⟨v0, v1, v2, v3, v4, _⟩, ⟨d, _⟩⟩ y hy
 refine ⟨_, loopP_ok (eX := fun (st : Int × List Pr) => (let v4 := st.1; let d := st.2; ((v0, v1, v2, v3, v4, ()), (d, ())) : VhL swapPrL0vs × OShL swapPrL0os)) (body := swapPrL0Step v1 v2 v3) (fun st =>?_) _ (v4, d) y hy⟩
 obtain ⟨v4, d⟩ := st
 refine (swapPrL0_raw ..).trans ?_
 unfold swapPrL0Step
 repeat' (first|refine cond_outP (fun _ =>?_) (fun _ =>?_) | rfl)
def swapPrTr (a b n : Int) (d : List Pr) : T (List Pr) :=
 (T.loop (swapPrL0Step a b n) 4611686018427387904 (0, d)).bind fun x0 =>
 .ret x0
@[reducible] def swapPrCI : PIf (VhL [.s (.ownC 0), vi, vi, vi, .clo 93 []] × OShL cdv1q0) (VhL [.s (.ownC 0)] × OShL cdv1q0) where
 α := List Pr
 tr x := swapPrTr x.1.2.1 x.1.2.2.1 x.1.2.2.2.1 x.2.1
 enc x a := ((x.1.1, ()), (a, ()))
@[reducible] def swapPrI : PIf (VhL [.s (.own 0), vi, vi, vi, .clo 93 []] × OShL cdv1q0) (VhL [] × OShL cdv1q0) where
 α := List Pr
 tr x := swapPrTr x.1.2.1 x.1.2.2.1 x.1.2.2.2.1 x.2.1
 enc x a := ((), (a, ()))
abbrev swapPr_T : Type := VhL [.s (.own 0), vi, vi, vi, .clo 93 []] × OShL cdv1q0 → Option (VhL [] × OShL cdv1q0)
noncomputable abbrev swapPr_C (sp : swapPr_T) : Con := Con.fx [vi, vi, vi, .clo 93 []] cdv1q0 [] cdv1q0 sp
noncomputable abbrev swapPrS : swapPr_T := PIf.spec swapPrI
theorem swapPr_raw (p0 : cmpPr_T) (p1 : VhL swapPrL0vs × OShL swapPrL0os → Option swapPrL0fin.Y) (c0 : Value) (a b n : Int) (d : List Pr) : runX Tryz.f134 [vi, vi, vi, .clo 93 []] cdv1q0 [] cdv1q0 [(93, cmpPr_C p0)] [(1, swapPrL0Q p1)] [] (((c0, a, b, n, (), ()), (d, ())) : VhL [.s (.ownC 0), vi, vi, vi, .clo 93 []] × OShL cdv1q0) = ((p1 ((c0, a, b, n, 0, ()), d, ())).bind fun z => some ((z.1.1, ()), z.2.1, ())) := by kernel_rfl
theorem swapPr_ok : Sound Tryz.prog gl 134 (swapPr_C swapPrS) := by
 refine cxk (I := swapPrCI) (J := swapPrI) (fn := Tryz.f134) (G := [(93, cmpPr_C cmpPrS)]) (cmpPr_k (GOk.nil)) (by kernel_rfl) (by kernel_rfl) (Lc := [(1, swapPrL0Q (PIf.spec swapPrL0I))]) (nh := []) (lcok (bs := [getL (body Tryz.f134) 0]) (by kernel_rfl) ⟨lone_ok (q := (1, swapPrL0Q (PIf.spec swapPrL0I))) (by kernel_rfl) swapPrL0_ok, trivial⟩) ?_ (fun c0 x o y h => by obtain ⟨a, h1, rfl⟩ := Option.map_eq_some_iff.1 h; exact Option.map_eq_some_iff.2 ⟨a, h1, rfl⟩)
 rintro ⟨⟨c0, a, b, n, _, _⟩, ⟨d, _⟩⟩
 refine (swapPr_raw ..).trans ?_
 show _ = ((swapPrTr a b n d).val).map _
 unfold swapPrTr
 repeat' (first|(refine bindP (fun _ =>?_); try dsimp only [selim, cond_true, cond_false, Bool.not_true, Bool.not_false, one, mI, cmpPrI, swapPrL0I]) | rfl)
theorem swapPr_k {G : List (Nat × Con)} (h : GOk Tryz.prog gl G) : GOk Tryz.prog gl ((134, swapPr_C swapPrS) :: G) := GOk.cons ⟨Tryz.f134, body Tryz.f134, by kernel_rfl, by kernel_rfl, by kernel_rfl⟩ swapPr_ok h
abbrev rotPrL0vs : List Vh := [.s (.ownC 0), vi, .clo 93 [], vi, vi]
abbrev rotPrL0os : List OSh := cdv1q0
noncomputable abbrev rotPrL0fin : Fin := (Fin.one 1 Tryz.f129.ntmps (.exit 0) [0, 2, 4, 10] [.s (.ownC 0), vi, .clo 93 [], vi] cdv1q0)
noncomputable abbrev rotPrL0Q (sp : VhL rotPrL0vs × OShL rotPrL0os → Option rotPrL0fin.Y) : LCon := LCon.of Tryz.f129.ntmps [0, 2, 4, 10, 11] rotPrL0vs rotPrL0os rotPrL0fin sp
def rotPrL0Step (v1 : Int) (st : Int × Int × List Pr) : T ((Int × Int × List Pr) ⊕ (Int × List Pr)) :=
 let v2 := st.1
 let v3 := st.2.1
 let d := st.2.2
 bif v2 != v3 then
 bif decide (v2 > v3) then
 (swapPrTr (w64 (v1 - v2)) v1 v3 d).bind fun x0 =>
 .ret (Sum.inl (w64 (v2 - v3), v3, x0))
 else
 (swapPrTr (w64 (v1 - v2)) (w64 (w64 (v1 + v3) - v2)) v2 d).bind fun x0 =>
 .ret (Sum.inl (v2, w64 (v3 - v2), x0))
 else
 .ret (Sum.inr (v2, d))
@[reducible] def rotPrL0I : PIf (VhL rotPrL0vs × OShL rotPrL0os) rotPrL0fin.Y where
 α := Int × List Pr
 tr x := T.loop (rotPrL0Step x.1.2.1) FU (x.1.2.2.2.1, x.1.2.2.2.2.1, x.2.1)
 enc x a := ((x.1.1, x.1.2.1, (), a.1, ()), (a.2, ()))
theorem rotPrL0_raw (sp_cmpPr : cmpPr_T) (sp_swapPr : swapPr_T) (v0 : Value) (v1 v2 v3 : Int) (d : List Pr) : runW 1 Tryz.f129 0 [0, 2, 4, 10, 11] rotPrL0vs rotPrL0os rotPrL0fin [(93, cmpPr_C sp_cmpPr), (134, swapPr_C sp_swapPr)] [] [] (((v0, v1, (), v2, v3, ()), (d, ())) : VhL rotPrL0vs × OShL rotPrL0os) = (bif v2 != v3 then bif decide (v2 > v3) then (sp_swapPr (((), w64 (v1 - v2), v1, v3, (), ()), d, ())).bind fun val => some (Sum.inl ((v0, v1, (), w64 (v2 - v3), v3, ()), val.2.1, ())) else (sp_swapPr (((), w64 (v1 - v2), w64 (w64 (v1 + v3) - v2), v2, (), ()), d, ())).bind fun val => some (Sum.inl ((v0, v1, (), v2, w64 (v3 - v2), ()), val.2.1, ()))
else some (Sum.inr ((v0, v1, (), v2, ()), d, ()))) := by kernel_rfl
theorem rotPrL0_ok : LOk Tryz.prog gl 1 (rotPrL0Q (PIf.spec rotPrL0I)) (getL (body Tryz.f129) 0) := by
 refine lwk (Lc := []) (nh := []) (G := [(93, cmpPr_C cmpPrS), (134, swapPr_C swapPrS)]) (cmpPr_k (swapPr_k (GOk.nil))) (noloopN (by kernel_rfl)) (Fin.one_ok _ _ _ _) ?_
 rintro ⟨⟨v0, v1, _, v2, v3, _⟩, ⟨d, _⟩⟩ y hy
 refine ⟨_, loopP_ok (eX := fun (st : Int × Int × List Pr) => (let v2 := st.1; let v3 := st.2.1; let d := st.2.2; ((v0, v1, (), v2, v3, ()), (d, ())) : VhL rotPrL0vs × OShL rotPrL0os)) (body := rotPrL0Step v1) (fun st =>?_) _ (v2, v3, d) y hy⟩
 obtain ⟨v2, v3, d⟩ := st
 refine (rotPrL0_raw ..).trans ?_
 unfold rotPrL0Step
 repeat' (first|refine cond_outP (fun _ =>?_) (fun _ =>?_)|(refine bindP (fun _ =>?_); try dsimp only [selim, cond_true, cond_false, Bool.not_true, Bool.not_false, one, mI, cmpPrI, swapPrI]) | rfl)
def rotPrTr (a m b : Int) (d : List Pr) : T (List Pr) :=
 (T.loop (rotPrL0Step m) 4611686018427387904 (w64 (m - a), w64 (b - m), d)).bind fun x0 =>
 (swapPrTr (w64 (m - x0.1)) m x0.1 x0.2).bind fun x1 =>
 .ret x1
@[reducible] def rotPrCI : PIf (VhL [.s (.ownC 0), vi, vi, vi, .clo 93 []] × OShL cdv1q0) (VhL [.s (.ownC 0)] × OShL cdv1q0) where
 α := List Pr
 tr x := rotPrTr x.1.2.1 x.1.2.2.1 x.1.2.2.2.1 x.2.1
 enc x a := ((x.1.1, ()), (a, ()))
@[reducible] def rotPrI : PIf (VhL [.s (.own 0), vi, vi, vi, .clo 93 []] × OShL cdv1q0) (VhL [] × OShL cdv1q0) where
 α := List Pr
 tr x := rotPrTr x.1.2.1 x.1.2.2.1 x.1.2.2.2.1 x.2.1
 enc x a := ((), (a, ()))
abbrev rotPr_T : Type := VhL [.s (.own 0), vi, vi, vi, .clo 93 []] × OShL cdv1q0 → Option (VhL [] × OShL cdv1q0)
noncomputable abbrev rotPr_C (sp : rotPr_T) : Con := Con.fx [vi, vi, vi, .clo 93 []] cdv1q0 [] cdv1q0 sp
noncomputable abbrev rotPrS : rotPr_T := PIf.spec rotPrI
theorem rotPr_raw (p0 : cmpPr_T) (p1 : swapPr_T) (p2 : VhL rotPrL0vs × OShL rotPrL0os → Option rotPrL0fin.Y) (c0 : Value) (a m b : Int) (d : List Pr) : runX Tryz.f129 [vi, vi, vi, .clo 93 []] cdv1q0 [] cdv1q0 [(93, cmpPr_C p0), (134, swapPr_C p1)] [(2, rotPrL0Q p2)] [] (((c0, a, m, b, (), ()), (d, ())) : VhL [.s (.ownC 0), vi, vi, vi, .clo 93 []] × OShL cdv1q0) = ((p2 ((c0, m, (), w64 (m - a), w64 (b - m), ()), d, ())).bind fun z => (p1 (((), w64 (z.1.2.1 - z.1.2.2.2.1), z.1.2.1, z.1.2.2.2.1, (), ()), z.2.1, ())).bind fun z1 => some ((z.1.1, ()), z1.2.1, ())) := by kernel_rfl
theorem rotPr_ok : Sound Tryz.prog gl 129 (rotPr_C rotPrS) := by
 refine cxk (I := rotPrCI) (J := rotPrI) (fn := Tryz.f129) (G := [(93, cmpPr_C cmpPrS), (134, swapPr_C swapPrS)]) (cmpPr_k (swapPr_k (GOk.nil))) (by kernel_rfl) (by kernel_rfl) (Lc := [(2, rotPrL0Q (PIf.spec rotPrL0I))]) (nh := []) (lcok (bs := [getL (body Tryz.f129) 0]) (by kernel_rfl) ⟨lone_ok (q := (2, rotPrL0Q (PIf.spec rotPrL0I))) (by kernel_rfl) rotPrL0_ok, trivial⟩) ?_ (fun c0 x o y h => by obtain ⟨a, h1, rfl⟩ := Option.map_eq_some_iff.1 h; exact Option.map_eq_some_iff.2 ⟨a, h1, rfl⟩)
 rintro ⟨⟨c0, a, m, b, _, _⟩, ⟨d, _⟩⟩
 refine (rotPr_raw ..).trans ?_
 show _ = ((rotPrTr a m b d).val).map _
 unfold rotPrTr
 repeat' (first|(refine bindP (fun _ =>?_); try dsimp only [selim, cond_true, cond_false, Bool.not_true, Bool.not_false, one, mI, cmpPrI, swapPrI, rotPrL0I]) | rfl)
theorem rotPr_k {G : List (Nat × Con)} (h : GOk Tryz.prog gl G) : GOk Tryz.prog gl ((129, rotPr_C rotPrS) :: G) := GOk.cons ⟨Tryz.f129, body Tryz.f129, by kernel_rfl, by kernel_rfl, by kernel_rfl⟩ rotPr_ok h
abbrev insPrL1vs : List Vh := [.s (.ownC 0), vi, vi, .clo 93 [], vi, vi]
abbrev insPrL1os : List OSh := cdv1q0
noncomputable abbrev insPrL1fin : Fin := (Fin.one 1 Tryz.f121.ntmps (.exit 2) [0, 1, 2, 3, 8] [.s (.ownC 0), vi, vi, .clo 93 [], vi] cdv1q0)
noncomputable abbrev insPrL1Q (sp : VhL insPrL1vs × OShL insPrL1os → Option insPrL1fin.Y) : LCon := LCon.of Tryz.f121.ntmps [0, 1, 2, 3, 8, 9] insPrL1vs insPrL1os insPrL1fin sp
def insPrL1Step (v1 v2 v3 : Int) (st : Int × List Pr) : T ((Int × List Pr) ⊕ (List Pr)) :=
 let v4 := st.1
 let d := st.2
 bif decide (v4 > v1) then
 bif inR v4 d.length then
 bif inR (w64 (v4 - 1)) d.length then
 (cmpPrTr (rdE (EK.st SN.pr) d v4) (rdE (EK.st SN.pr) d (w64 (v4 - 1)))).bind fun x0 =>
 bif decide (x0 < 0) then
 bif inR (w64 (v4 - 1)) d.length then
 bif inR v4 d.length then
 bif inR v4 d.length then
 bif inR (w64 (v4 - 1)) (wrE (EK.st SN.pr) d v4 (rdE (EK.st SN.pr) d (w64 (v4 - 1)))).length then
 .ret (Sum.inl (w64 (v4 - 1), wrE (EK.st SN.pr) (wrE (EK.st SN.pr) d v4 (rdE (EK.st SN.pr) d (w64 (v4 - 1)))) (w64 (v4 - 1)) (rdE (EK.st SN.pr) d v4)))
 else
 .bot
 else
 .bot
 else
 .bot
 else
 .bot
 else
 .ret (Sum.inr d)
 else
 .bot
 else
 .bot
 else
 .ret (Sum.inr d)
@[reducible] def insPrL1I : PIf (VhL insPrL1vs × OShL insPrL1os) insPrL1fin.Y where
 α := List Pr
 tr x := T.loop (insPrL1Step x.1.2.1 x.1.2.2.1 x.1.2.2.2.2.1) FU (x.1.2.2.2.2.2.1, x.2.1)
 enc x a := ((x.1.1, x.1.2.1, x.1.2.2.1, (), x.1.2.2.2.2.1, ()), (a, ()))
theorem insPrL1_raw (sp_cmpPr : cmpPr_T) (v0 : Value) (v1 v2 v3 v4 : Int) (d : List Pr) : runW 1 Tryz.f121 1 [0, 1, 2, 3, 8, 9] insPrL1vs insPrL1os insPrL1fin [(93, cmpPr_C sp_cmpPr)] [] [] (((v0, v1, v2, (), v3, v4, ()), (d, ())) : VhL insPrL1vs × OShL insPrL1os) = (bif decide (v4 > v1) then bif inR v4 d.length then bif inR (w64 (v4 - 1)) d.length then (sp_cmpPr ((rdE (EK.st SN.pr) d v4, rdE (EK.st SN.pr) d (w64 (v4 - 1)), ()), ())).bind fun val => bif decide (val.1.1 < 0) then bif inR (w64 (v4 - 1)) d.length then bif inR v4 d.length then bif inR v4 d.length then bif inR (w64 (v4 - 1)) (wrE (EK.st SN.pr) d v4 (rdE (EK.st SN.pr) d (w64 (v4 - 1)))).length then some (Sum.inl ((v0, v1, v2, (), v3, w64 (v4 - 1), ()), wrE (EK.st SN.pr) (wrE (EK.st SN.pr) d v4 (rdE (EK.st SN.pr) d (w64 (v4 - 1)))) (w64 (v4 - 1)) (rdE (EK.st SN.pr) d v4), ())) else none else none else none else none else some (Sum.inr ((v0, v1, v2, (), v3, ()), d, ())) else none else none
else some (Sum.inr ((v0, v1, v2, (), v3, ()), d, ()))) := by kernel_rfl
theorem insPrL1_ok : LOk Tryz.prog gl 1 (insPrL1Q (PIf.spec insPrL1I)) (getL (body Tryz.f121) 1) := by
 refine lwk (Lc := []) (nh := []) (G := [(93, cmpPr_C cmpPrS)]) (cmpPr_k (GOk.nil)) (noloopN (by kernel_rfl)) (Fin.one_ok _ _ _ _) ?_
 rintro ⟨⟨v0, v1, v2, _, v3, v4, _⟩, ⟨d, _⟩⟩ y hy
 refine ⟨_, loopP_ok (eX := fun (st : Int × List Pr) => (let v4 := st.1; let d := st.2; ((v0, v1, v2, (), v3, v4, ()), (d, ())) : VhL insPrL1vs × OShL insPrL1os)) (body := insPrL1Step v1 v2 v3) (fun st =>?_) _ (v4, d) y hy⟩
 obtain ⟨v4, d⟩ := st
 refine (insPrL1_raw ..).trans ?_
 unfold insPrL1Step
 repeat' (first|refine cond_outP (fun _ =>?_) (fun _ =>?_)|(refine bindP (fun _ =>?_); try dsimp only [selim, cond_true, cond_false, Bool.not_true, Bool.not_false, one, mI, cmpPrI]) | rfl)
abbrev insPrL0vs : List Vh := [.s (.ownC 0), vi, vi, .clo 93 [], vi]
abbrev insPrL0os : List OSh := cdv1q0
noncomputable abbrev insPrL0fin : Fin := (Fin.one 1 Tryz.f121.ntmps (.exit 0) [0] [.s (.ownC 0)] cdv1q0)
noncomputable abbrev insPrL0Q (sp : VhL insPrL0vs × OShL insPrL0os → Option insPrL0fin.Y) : LCon := LCon.of Tryz.f121.ntmps [0, 1, 2, 3, 8] insPrL0vs insPrL0os insPrL0fin sp
def insPrL0Step (v1 v2 : Int) (st : Int × List Pr) : T ((Int × List Pr) ⊕ (List Pr)) :=
 let v3 := st.1
 let d := st.2
 bif decide (v3 < v2) then
 (T.loop (insPrL1Step v1 v2 v3) 4611686018427387904 (v3, d)).bind fun x0 =>
 .ret (Sum.inl (w64 (v3 + 1), x0))
 else
 .ret (Sum.inr d)
@[reducible] def insPrL0I : PIf (VhL insPrL0vs × OShL insPrL0os) insPrL0fin.Y where
 α := List Pr
 tr x := T.loop (insPrL0Step x.1.2.1 x.1.2.2.1) FU (x.1.2.2.2.2.1, x.2.1)
 enc x a := ((x.1.1, ()), (a, ()))
theorem insPrL0_raw (sp_cmpPr : cmpPr_T) (sp_insPrL1 : VhL insPrL1vs × OShL insPrL1os → Option insPrL1fin.Y) (v0 : Value) (v1 v2 v3 : Int) (d : List Pr) : runW 1 Tryz.f121 0 [0, 1, 2, 3, 8] insPrL0vs insPrL0os insPrL0fin [(93, cmpPr_C sp_cmpPr)] [(4, insPrL1Q sp_insPrL1)] [] (((v0, v1, v2, (), v3, ()), (d, ())) : VhL insPrL0vs × OShL insPrL0os) = (bif decide (v3 < v2) then (sp_insPrL1 ((v0, v1, v2, (), v3, v3, ()), d, ())).bind fun val => some (Sum.inl ((val.1.1, val.1.2.1, val.1.2.2.1, (), w64 (val.1.2.2.2.2.1 + 1), ()), val.2.1, ()))
else some (Sum.inr ((v0, ()), d, ()))) := by kernel_rfl
theorem insPrL0_ok : LOk Tryz.prog gl 1 (insPrL0Q (PIf.spec insPrL0I)) (getL (body Tryz.f121) 0) := by
 refine lwk (Lc := [(4, insPrL1Q (PIf.spec insPrL1I))]) (nh := []) (G := [(93, cmpPr_C cmpPrS)]) (cmpPr_k (GOk.nil)) (lcok (bs := [getL (body Tryz.f121) 1]) (by kernel_rfl) ⟨lone_ok (q := (4, insPrL1Q (PIf.spec insPrL1I))) (by kernel_rfl) insPrL1_ok, trivial⟩) (Fin.one_ok _ _ _ _) ?_
 rintro ⟨⟨v0, v1, v2, _, v3, _⟩, ⟨d, _⟩⟩ y hy
 refine ⟨_, loopP_ok (eX := fun (st : Int × List Pr) => (let v3 := st.1; let d := st.2; ((v0, v1, v2, (), v3, ()), (d, ())) : VhL insPrL0vs × OShL insPrL0os)) (body := insPrL0Step v1 v2) (fun st =>?_) _ (v3, d) y hy⟩
 obtain ⟨v3, d⟩ := st
 refine (insPrL0_raw ..).trans ?_
 unfold insPrL0Step
 repeat' (first|refine cond_outP (fun _ =>?_) (fun _ =>?_)|(refine bindP (fun _ =>?_); try dsimp only [selim, cond_true, cond_false, Bool.not_true, Bool.not_false, one, mI, cmpPrI, insPrL1I]) | rfl)
def insPrTr (a b : Int) (d : List Pr) : T (List Pr) :=
 (T.loop (insPrL0Step a b) 4611686018427387904 (w64 (a + 1), d)).bind fun x0 =>
 .ret x0
@[reducible] def insPrCI : PIf (VhL [.s (.ownC 0), vi, vi, .clo 93 []] × OShL cdv1q0) (VhL [.s (.ownC 0)] × OShL cdv1q0) where
 α := List Pr
 tr x := insPrTr x.1.2.1 x.1.2.2.1 x.2.1
 enc x a := ((x.1.1, ()), (a, ()))
@[reducible] def insPrI : PIf (VhL [.s (.own 0), vi, vi, .clo 93 []] × OShL cdv1q0) (VhL [] × OShL cdv1q0) where
 α := List Pr
 tr x := insPrTr x.1.2.1 x.1.2.2.1 x.2.1
 enc x a := ((), (a, ()))
abbrev insPr_T : Type := VhL [.s (.own 0), vi, vi, .clo 93 []] × OShL cdv1q0 → Option (VhL [] × OShL cdv1q0)
noncomputable abbrev insPr_C (sp : insPr_T) : Con := Con.fx [vi, vi, .clo 93 []] cdv1q0 [] cdv1q0 sp
noncomputable abbrev insPrS : insPr_T := PIf.spec insPrI
theorem insPr_raw (p0 : cmpPr_T) (p1 : VhL insPrL1vs × OShL insPrL1os → Option insPrL1fin.Y) (p2 : VhL insPrL0vs × OShL insPrL0os → Option insPrL0fin.Y) (c0 : Value) (a b : Int) (d : List Pr) : runX Tryz.f121 [vi, vi, .clo 93 []] cdv1q0 [] cdv1q0 [(93, cmpPr_C p0)] [(4, insPrL1Q p1), (1, insPrL0Q p2)] [] (((c0, a, b, (), ()), (d, ())) : VhL [.s (.ownC 0), vi, vi, .clo 93 []] × OShL cdv1q0) = ((p2 ((c0, a, b, (), w64 (a + 1), ()), d, ())).bind fun z => some ((z.1.1, ()), z.2.1, ())) := by kernel_rfl
theorem insPr_ok : Sound Tryz.prog gl 121 (insPr_C insPrS) := by
 refine cxk (I := insPrCI) (J := insPrI) (fn := Tryz.f121) (G := [(93, cmpPr_C cmpPrS)]) (cmpPr_k (GOk.nil)) (by kernel_rfl) (by kernel_rfl) (Lc := [(4, insPrL1Q (PIf.spec insPrL1I)), (1, insPrL0Q (PIf.spec insPrL0I))]) (nh := []) (lcok (bs := [getL (body Tryz.f121) 0, getL (body Tryz.f121) 1]) (by kernel_rfl) ⟨lone_ok (q := (1, insPrL0Q (PIf.spec insPrL0I))) (by kernel_rfl) insPrL0_ok, lone_ok (q := (4, insPrL1Q (PIf.spec insPrL1I))) (by kernel_rfl) insPrL1_ok, trivial⟩) ?_ (fun c0 x o y h => by obtain ⟨a, h1, rfl⟩ := Option.map_eq_some_iff.1 h; exact Option.map_eq_some_iff.2 ⟨a, h1, rfl⟩)
 rintro ⟨⟨c0, a, b, _, _⟩, ⟨d, _⟩⟩
 refine (insPr_raw ..).trans ?_
 show _ = ((insPrTr a b d).val).map _
 unfold insPrTr
 repeat' (first|(refine bindP (fun _ =>?_); try dsimp only [selim, cond_true, cond_false, Bool.not_true, Bool.not_false, one, mI, cmpPrI, insPrL1I, insPrL0I]) | rfl)
theorem insPr_k {G : List (Nat × Con)} (h : GOk Tryz.prog gl G) : GOk Tryz.prog gl ((121, insPr_C insPrS) :: G) := GOk.cons ⟨Tryz.f121, body Tryz.f121, by kernel_rfl, by kernel_rfl, by kernel_rfl⟩ insPr_ok h
end Go.Ax.Cd
