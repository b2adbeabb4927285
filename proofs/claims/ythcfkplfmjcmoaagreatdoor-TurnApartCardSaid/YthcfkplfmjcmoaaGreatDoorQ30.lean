/- Merged. -/
import Derived.Test.YthcfkplfmjcmoaaGreatDoorQ15
import Derived.Test.YthcfkplfmjcmoaaGreatDoorQ29
namespace Go.Ax.Cd
open Go.Proofs
set_option linter.unusedVariables false
set_option maxRecDepth 100000
noncomputable abbrev nodeAtE : Fe := ⟨242, Tryz.f242, [vi], [], [vi], []⟩
noncomputable def nodeAtN : nodeAtE.T := nodeAtE.un fun (n : Int) => some (((w64 (n + 1)), ()), ())
theorem nodeAt_ok : nodeAtE.Ok nodeAtN := Fe.k (Lc := []) (nh := []) (by kernel_rfl) g0 (aA (by kernel_rfl)) fun x => by kernel_rfl
noncomputable abbrev loadE : Ge := Ge.m 245 Tryz.f245 [rc, vi] [vi] (Int) fun x a => (a, ())
def bKe (p0 : doE.T) (w r f : Int) (c : Cfg) (got held : List Int) : F (Int) :=
 (p0 (Acc.mk 3 0 w r f 0) c got held).bind fun x0 =>
 .ret x0
def loadF : loadE.T := bKe doF
abbrev bLp (w r f : Int) (c : Cfg) (got held : List Int) := (loadF w r f c got held).tree
theorem bEg (p0 : doE.T) (x) : loadE.run [doE.on p0] [] [] x = loadE.go (bKe p0) x some := by kernel_rfl
theorem load_ok : loadE.Ok loadF := Ge.k (by kernel_rfl) (doF_ok.k g0) (aA (by kernel_rfl)) (bEg doF)
noncomputable abbrev storeE : Ge := Ge.m 240 Tryz.f240 [rc, vi, vi] [] (Unit) fun x a => ()
def bEh (p0 : doE.T) (w r f v : Int) (c : Cfg) (got held : List Int) : F (Unit) :=
 (p0 (Acc.mk 4 0 w r f v) c got held).bind fun x0 =>
 .ret ()
def storeF : storeE.T := bEh doF
abbrev bIl (w r f v : Int) (c : Cfg) (got held : List Int) := (storeF w r f v c got held).tree
theorem aZj (p0 : doE.T) (x) : storeE.run [doE.on p0] [] [] x = storeE.go (bEh p0) x some := by kernel_rfl
theorem store_ok : storeE.Ok storeF := Ge.k (by kernel_rfl) (doF_ok.k g0) (aA (by kernel_rfl)) (aZj doF)
noncomputable abbrev retireE : Ge := Ge.m 250 Tryz.f250 [rc] [] (Unit) fun x a => ()
def aVf (p0 : doE.T) (w r : Int) (c : Cfg) (got held : List Int) : F (Unit) :=
 (p0 (Acc.mk 9 0 w r 0 0) c got held).bind fun x0 =>
 .ret ()
def retireF : retireE.T := aVf doF
abbrev bEi (w r : Int) (c : Cfg) (got held : List Int) := (retireF w r c got held).tree
theorem aRs (p0 : doE.T) (x) : retireE.run [doE.on p0] [] [] x = retireE.go (aVf p0) x some := by kernel_rfl
theorem retire_ok : retireE.Ok retireF := Ge.k (by kernel_rfl) (doF_ok.k g0) (aA (by kernel_rfl)) (aRs doF)
noncomputable abbrev wordE : Ge := Ge.m 237 Tryz.f237 [pm, vi] [vi] (Int) fun x a => (a, ())
def bKf (p0 : doE.T) (n : Int) (c : Cfg) (got held : List Int) : F (Int) :=
 (p0 (Acc.mk 3 n 0 0 0 0) c got held).bind fun x0 =>
 .ret x0
def wordF : wordE.T := bKf doF
abbrev bLq (n : Int) (c : Cfg) (got held : List Int) := (wordF n c got held).tree
theorem bEj (p0 : doE.T) (x) : wordE.run [doE.on p0] [] [] x = wordE.go (bKf p0) x some := by kernel_rfl
theorem word_ok : wordE.Ok wordF := Ge.k (by kernel_rfl) (doF_ok.k g0) (aA (by kernel_rfl)) (bEj doF)
noncomputable abbrev seeE : Ge := Ge.m 255 Tryz.f255 [pm, vi] [vi] (Int) fun x a => (a, ())
def seeB (p0 : doE.T) (n : Int) (c : Cfg) (got held : List Int) : F (Int) :=
 (p0 (Acc.mk 7 n 0 0 0 0) c got held).bind fun x0 =>
 .ret x0
def seeF : seeE.T := seeB doF
abbrev bNa (n : Int) (c : Cfg) (got held : List Int) := (seeF n c got held).tree
theorem bIm (p0 : doE.T) (x) : seeE.run [doE.on p0] [] [] x = seeE.go (seeB p0) x some := by kernel_rfl
theorem see_ok : seeE.Ok seeF := Ge.k (by kernel_rfl) (doF_ok.k g0) (aA (by kernel_rfl)) (bIm doF)
noncomputable abbrev setE : Ge := Ge.m 241 Tryz.f241 [pm, vi, vi] [] (Unit) fun x a => ()
def setB (p0 : doE.T) (n v : Int) (c : Cfg) (got held : List Int) : F (Unit) :=
 (p0 (Acc.mk 4 n 0 0 0 v) c got held).bind fun x0 =>
 .ret ()
def setF : setE.T := setB doF
abbrev bNb (n v : Int) (c : Cfg) (got held : List Int) := (setF n v c got held).tree
theorem bIn (p0 : doE.T) (x) : setE.run [doE.on p0] [] [] x = setE.go (setB p0) x some := by kernel_rfl
theorem set_ok : setE.Ok setF := Ge.k (by kernel_rfl) (doF_ok.k g0) (aA (by kernel_rfl)) (bIn doF)
noncomputable abbrev takeE : Ge := Ge.m 238 Tryz.f238 [pm, vi] [rc] (Int) fun x a => (((), x.2.1, a, ()), ())
def bKg (p0 : doE.T) (w : Int) (c : Cfg) (got held : List Int) : F (Int) :=
 (p0 (Acc.mk 8 0 w 0 0 0) c got held).bind fun x0 =>
 .ret x0
def takeF : takeE.T := bKg doF
abbrev bLr (w : Int) (c : Cfg) (got held : List Int) := (takeF w c got held).tree
theorem bEk (p0 : doE.T) (x) : takeE.run [doE.on p0] [] [] x = takeE.go (bKg p0) x some := by kernel_rfl
theorem take_ok : takeE.Ok takeF := Ge.k (by kernel_rfl) (doF_ok.k g0) (aA (by kernel_rfl)) (bEk doF)
noncomputable abbrev nextE : Ge := Ge.m 268 Tryz.f268 [rc, vi] [rc] (Int) fun x a => (((), x.1.2.1, a, ()), ())
def bKh (p0 : loadE.T) (w r f : Int) (c : Cfg) (got held : List Int) : F (Int) :=
 (p0 w r f c got held).bind fun x0 =>
 .ret x0
def nextF : nextE.T := bKh loadF
abbrev bLs (w r f : Int) (c : Cfg) (got held : List Int) := (nextF w r f c got held).tree
theorem bEl (p0 : loadE.T) (x) : nextE.run [loadE.on p0] [] [] x = nextE.go (bKh p0) x some := by kernel_rfl
theorem next_ok : nextE.Ok nextF := Ge.k (by kernel_rfl) (load_ok.k g0) (aA (by kernel_rfl)) (bEl loadF)
noncomputable abbrev nodeE : Ge := Ge.m 288 Tryz.f288 [pm, vi] [rc] (Unit) fun x a => (((), 1, x.2.1, ()), ())
def nodeF : nodeE.T := fun (r : Int) (c : Cfg) (got held : List Int) => .ret (())
theorem node_ok : nodeE.Ok nodeF := Ge.k (Lc := []) (nh := []) (by kernel_rfl) g0 (aA (by kernel_rfl)) fun x => by kernel_rfl
noncomputable abbrev edgeE : Ge := Ge.m 247 Tryz.f247 [pm, vi] [rc] (Unit) fun x a => (((), 2, x.2.1, ()), ())
def edgeF : edgeE.T := fun (r : Int) (c : Cfg) (got held : List Int) => .ret (())
theorem edge_ok : edgeE.Ok edgeF := Ge.k (Lc := []) (nh := []) (by kernel_rfl) g0 (aA (by kernel_rfl)) fun x => by kernel_rfl
noncomputable abbrev propE : Ge := Ge.m 251 Tryz.f251 [pm, vi] [rc] (Unit) fun x a => (((), 3, x.2.1, ()), ())
def propF : propE.T := fun (r : Int) (c : Cfg) (got held : List Int) => .ret (())
theorem prop_ok : propE.Ok propF := Ge.k (Lc := []) (nh := []) (by kernel_rfl) g0 (aA (by kernel_rfl)) fun x => by kernel_rfl
noncomputable abbrev noneE : Ge := Ge.m 239 Tryz.f239 [rc] [vb] (Bool) fun x a => (a, ())
def noneF : noneE.T := fun (w r : Int) (c : Cfg) (got held : List Int) => .ret (r == 0)
theorem none_ok : noneE.Ok noneF := Ge.k (Lc := []) (nh := []) (by kernel_rfl) g0 (aA (by kernel_rfl)) fun x => by kernel_rfl
noncomputable abbrev edgeAtE : Ge := Ge.m 246 Tryz.f246 [pm, vi] [vi] (Int) fun x a => (a, ())
def edgeAtF : edgeAtE.T := fun (i : Int) (c : Cfg) (got held : List Int) => .ret (w64 (w64 (c.ids + 1) + i))
theorem edgeAt_ok : edgeAtE.Ok edgeAtF := Ge.k (Lc := []) (nh := []) (by kernel_rfl) g0 (aA (by kernel_rfl)) fun x => by kernel_rfl
noncomputable abbrev findE : Ge := Ge.m 244 Tryz.f244 [pm, vi] [rc] (Int) fun x a => (((), 1, a, ()), ())
def bKi (p0 : wordE.T) (n : Int) (c : Cfg) (got held : List Int) : F (Int) :=
 (p0 (w64 (n + 1)) c got held).bind fun x1 =>
 .ret x1
def findF : findE.T := bKi wordF
abbrev bLt (n : Int) (c : Cfg) (got held : List Int) := (findF n c got held).tree
theorem bEm (p0 : wordE.T) (x) : findE.run [nodeAtE.on nodeAtN, wordE.on p0, nodeE.on nodeF] [] [] x = findE.go (bKi p0) x some := by kernel_rfl
theorem find_ok : findE.Ok findF := Ge.k (by kernel_rfl) (nodeAt_ok.k (word_ok.k (node_ok.k g0))) (aA (by kernel_rfl)) (bEm wordF)
noncomputable abbrev failedE : Fe := ⟨197, Tryz.f197, [vi], [], [.s (.e (.st .res))], []⟩
noncomputable def failedN : failedE.T := failedE.un fun (e : Int) => some (((Res.mk e 0 [] [] []), ()), ())
theorem failed_ok : failedE.Ok failedN := Fe.k (Lc := []) (nh := []) (by kernel_rfl) g0 (aA (by kernel_rfl)) fun x => by kernel_rfl
noncomputable abbrev knownE : Ge := Ge.m 243 Tryz.f243 [pm, .s (.lent .int)] [vb] (Bool) fun x a => (a, ())
def aHn  (l : List Int) (c : Cfg) (got held : List Int) : F (Bool) :=
 .ite (inR 0 l.length) (.ite (inR (w64 (Int.ofNat l.length - 1)) l.length) (.ite (decide (List.foldl min (rdE EK.int l 0) [rdE EK.int l (w64 (Int.ofNat l.length - 1))] ≥ 1)) (.ite (inR 0 l.length) (.ite (inR (w64 (Int.ofNat l.length - 1)) l.length) (.ret (decide (List.foldl max (rdE EK.int l 0) [rdE EK.int l (w64 (Int.ofNat l.length - 1))] ≤ c.ids)))
 (.tr .bot))
 (.tr .bot))
 (.ret false))
 (.tr .bot))
 (.tr .bot)
def knownF : knownE.T := aHn 
abbrev aAj (l : List Int) (c : Cfg) (got held : List Int) := (knownF l c got held).tree
theorem aZk  (x) : knownE.run [] [] [] x = knownE.go (aHn ) x some := by kernel_rfl
theorem known_ok : knownE.Ok knownF := Ge.k (by kernel_rfl) g0 (aA (by kernel_rfl)) (aZk )
noncomputable abbrev unlinkL0E : He := ⟨2, Tryz.f249, 0, [5, 7, 9, 10], [.s (.ptr 2 0), .s (.ptr 3 0), .s (.ptr 4 0), vi], [.box [.e (.st .cfg), .e (.sl .int), .own 1, .sln .int], .arr (.st .acc), .box [.e (.st .sid)], .box [.ptr 0 0, .e .int, .e .int], .box [.ptr 0 0, .e .int, .e .int]], ((Fin.one 2 Tryz.f249.ntmps (.exit 0) [] [] mach).or ((Fin.one 2 Tryz.f249.ntmps .ret [] [] mach).or (Fin.pan 2 188 (.agg []) machP))), Int → Cfg → List Int → List Int → Sid → Int → Int → Int → Int → F (Unit ⊕ Unit), Unit ⊕ Unit, fun t x => t x.1.2.2.2.1 x.2.1.1 x.2.1.2.1 x.2.1.2.2.2.1 x.2.2.2.1.1 x.2.2.2.2.1.2.1 x.2.2.2.2.1.2.2.1 x.2.2.2.2.2.1.2.1 x.2.2.2.2.2.1.2.2.1, fun x a d K => aH a (fun b => K (Sum.inl (((), ((x.2.1.1, x.2.1.2.1, (), x.2.1.2.2.2.1, ()), d, ()))))) (fun b => K (Sum.inr (Sum.inl (((), ((x.2.1.1, x.2.1.2.1, (), x.2.1.2.2.2.1, ()), d, ())))))), fun x d => Sum.inr (Sum.inr ((((), ()), ((x.2.1.1, x.2.1.2.1, (), (), ()), d, ())))), fun x => x.2.1.2.1, fun x => x.2.2.1, fun _ a _ _ => by cases a <;> rfl⟩
def aFd (x : unlinkL0E.X) (s : Int) (d : List Acc) : unlinkL0E.X := (((), (), (), x.1.2.2.2.1, ()), ((x.2.1.1, x.2.1.2.1, (), x.2.1.2.2.2.1, ()), d, (x.2.2.2.1.1, ()), ((), x.2.2.2.2.1.2.1, x.2.2.2.2.1.2.2.1, ()), ((), x.2.2.2.2.2.1.2.1, s, ()), ()))
def wQ (p0 : storeE.T) (p1 : nextE.T) (v3 : Int) (c : Cfg) (got held : List Int) (v9 : Sid) (v11 v12 v14 st : Int) : F ((Int) ⊕ (Unit ⊕ Unit)) :=
 let v15 := st; 
 .ite (!v15 == 0) ((p1 v14 v15 v9.link c got held).bind fun x1 =>
 .ite (x1 == v12) ((p0 v14 v15 v9.link v3 c got held).bind fun _ =>
 .ret (Sum.inr (Sum.inr (()))))
 (.ret (Sum.inl x1)))
 (.ret (Sum.inr (Sum.inl (()))))
abbrev uL (v3 : Int) (c : Cfg) (got held : List Int) (v9 : Sid) (v11 v12 v14 st : Int) := (wQ storeF nextF v3 c got held v9 v11 v12 v14 st).tree
def unlinkL0F : unlinkL0E.LT := fun v3 c got held v9 v11 v12 v14 s0 => .tr (T.loop (uL v3 c got held v9 v11 v12 v14) (got.length + 10) s0)
theorem aHo (p0 : storeE.T) (p1 : nextE.T) (x) : unlinkL0E.run [loadE.on loadF, storeE.on p0, nextE.on p1, edgeE.on edgeF, noneE.on noneF, findE.on findF] [] [] x = unlinkL0E.go1 aFd (wQ p0 p1 x.1.2.2.2.1 x.2.1.1 x.2.1.2.1 x.2.1.2.2.2.1 x.2.2.2.1.1 x.2.2.2.2.1.2.1 x.2.2.2.2.1.2.2.1 x.2.2.2.2.2.1.2.1 x.2.2.2.2.2.1.2.2.1) x := by kernel_rfl
theorem aLs : unlinkL0E.Ok unlinkL0F := He.k aFd (fun x => x.2.2.2.2.2.1.2.2.1) (fun x s => wQ storeF nextF x.1.2.2.2.1 x.2.1.1 x.2.1.2.1 x.2.1.2.2.2.1 x.2.2.2.1.1 x.2.2.2.2.1.2.1 x.2.2.2.2.1.2.2.1 x.2.2.2.2.2.1.2.1 s) (fo f1 (fo f1 fp)) (load_ok.k (store_ok.k (next_ok.k (edge_ok.k (none_ok.k (find_ok.k g0)))))) (aA (by kernel_rfl)) (aHo storeF nextF) (fun _ => rfl) (fun _ => rfl) (fun _ _ _ => rfl) (fun _ _ _ => ⟨rfl, rfl⟩)
noncomputable abbrev unlinkE : Ge := Ge.m 249 Tryz.f249 [pm, .s (.e (.st .sid)), vi, rc] [] (Unit) fun x a => ()
def aVg (p0 : loadE.T) (p1 : storeE.T) (p2 : nextE.T) (p3 : findE.T) (p4 : unlinkL0E.LT) (s : Sid) (n w r : Int) (c : Cfg) (got held : List Int) : F (Unit) :=
 (p3 n c got held).bind fun x0 =>
 (p0 1 x0 s.head c got held).bind fun x1 =>
 (p0 w r s.link c got held).bind fun x3 =>
 .ite (x1 == r) ((p1 1 x0 s.head x3 c got held).bind fun _ =>
 .ret ())
 ((p4 x3 c got held s w r 2 x1).bind fun b4 => .sel b4 (fun x4 => .ret ())
 (fun y4 => .ret ()))
def unlinkF : unlinkE.T := aVg loadF storeF nextF findF unlinkL0F
abbrev aLt (s : Sid) (n w r : Int) (c : Cfg) (got held : List Int) := (unlinkF s n w r c got held).tree
theorem aRt (p0 : loadE.T) (p1 : storeE.T) (p2 : nextE.T) (p3 : findE.T) (p4 : unlinkL0E.LT) (x) : unlinkE.run [loadE.on p0, storeE.on p1, nextE.on p2, edgeE.on edgeF, noneE.on noneF, findE.on p3] [(6, unlinkL0E.on p4)] [] x = unlinkE.go (aVg p0 p1 p2 p3 p4) x some := by kernel_rfl
theorem unlink_ok : unlinkE.Ok unlinkF := Ge.k (by kernel_rfl) (load_ok.k (store_ok.k (next_ok.k (edge_ok.k (none_ok.k (find_ok.k g0)))))) (bD (by kernel_rfl) (lhc (by kernel_rfl) aLs rfl lsn)) (aRt loadF storeF nextF findF unlinkL0F)
noncomputable abbrev latchL0E : He := ⟨2, Tryz.f236, 0, [0, 14, 15, 16], [pm, .s (.sln .int), vi, vi], mach, ((Fin.one 2 Tryz.f236.ntmps (.exit 0) [] [] mach).or (Fin.pan 2 188 (.agg []) machP)), List Int → Int → Cfg → List Int → List Int → Int → F (Unit), Unit, fun t x => t x.1.2.1 x.1.2.2.1 x.2.1.1 x.2.1.2.1 x.2.1.2.2.2.1 x.1.2.2.2.1, fun x a d K => K (Sum.inl (((), ((x.2.1.1, x.2.1.2.1, (), x.2.1.2.2.2.1, ()), d, ())))), fun x d => Sum.inr ((((), ()), ((x.2.1.1, x.2.1.2.1, (), (), ()), d, ()))), fun x => x.2.1.2.1, fun x => x.2.2.1, fun _ _ _ _ => rfl⟩
def aLu (x : latchL0E.X) (s : Int) (d : List Acc) : latchL0E.X := (((), x.1.2.1, x.1.2.2.1, s, ()), ((x.2.1.1, x.2.1.2.1, (), x.2.1.2.2.2.1, ()), d, ()))
def uM (p0 : doE.T) (v1 : List Int) (v2 : Int) (c : Cfg) (got held : List Int) (st : Int) : F ((Int) ⊕ (Unit)) :=
 let v3 := st; 
 .ite (decide (v3 < v2)) (.ite (inR v3 v1.length) ((p0 (Acc.mk 5 (rdE EK.int v1 v3) 0 0 0 0) c got held).bind fun x0 =>
 .ret (Sum.inl (w64 (v3 + 1))))
 (.tr .bot))
 (.ret (Sum.inr ()))
abbrev xL (v1 : List Int) (v2 : Int) (c : Cfg) (got held : List Int) (st : Int) := (uM doF v1 v2 c got held st).tree
def latchL0F : latchL0E.LT := fun v1 v2 c got held s0 => .tr (T.loop (xL v1 v2 c got held) (got.length + 10) s0)
theorem aLv (p0 : doE.T) (x) : latchL0E.run [doE.on p0, ordSetE.on] [] [] x = latchL0E.go1 aLu (uM p0 x.1.2.1 x.1.2.2.1 x.2.1.1 x.2.1.2.1 x.2.1.2.2.2.1 x.1.2.2.2.1) x := by kernel_rfl
theorem aRu : latchL0E.Ok latchL0F := He.k aLu (fun x => x.1.2.2.2.1) (fun x s => uM doF x.1.2.1 x.1.2.2.1 x.2.1.1 x.2.1.2.1 x.2.1.2.2.2.1 s) (fo f1 fp) (doF_ok.k (ordSetU_ok.k g0)) (aA (by kernel_rfl)) (aLv doF) (fun _ => rfl) (fun _ => rfl) (fun _ _ _ => rfl) (fun _ _ _ => ⟨rfl, rfl⟩)
noncomputable abbrev latchE : Ge := ⟨236, Tryz.f236, [pm, .s (.lent .int)], mach, [], mach, machP, List Int, fun x a d => ((), ((x.2.1.1, x.2.1.2.1, (), a, ()), d, ())), fun o d => ((o.1.1, o.1.2.1, (), (), ()), d, ()), fun o => o.1.2.1, fun o => o.2.1⟩
def bEn (p0 : doE.T) (p1 : latchL0E.LT) (l : List Int) (c : Cfg) (got held : List Int) : F (List Int) :=
 (F.gd (mH l) ()).bind fun _ =>
 (p1 (aJ l) (Int.ofNat (aJ l).length) c got (aJ l) 0).bind fun _ =>
 .ret (aJ l)
def latchF : latchE.T := bEn doF latchL0F
abbrev aHp (l : List Int) (c : Cfg) (got held : List Int) := (latchF l c got held).tree
theorem aZl (p0 : doE.T) (p1 : latchL0E.LT) (x) : latchE.run [doE.on p0, ordSetE.on] [(2, latchL0E.on p1)] [] x = latchE.go (bEn p0 p1) x some := by kernel_rfl
theorem latch_ok : latchE.Ok latchF := Ge.k (by kernel_rfl) (doF_ok.k (ordSetU_ok.k g0)) (bD (by kernel_rfl) (lhc (by kernel_rfl) aRu rfl lsn)) (aZl doF latchL0F)
noncomputable abbrev addE : Ge := ⟨187, Tryz.f187, [pm], mach, [.s (.e (.st .res))], mach, machP, Res × List Int, fun x a d => ((a.1, ()), ((x.2.1.1, x.2.1.2.1, (), a.2, ()), d, ())), fun o d => ((o.1.1, o.1.2.1, (), (), ()), d, ()), fun o => o.1.2.1, fun o => o.2.1⟩
def addB (p0 : storeE.T) (p1 : wordE.T) (p2 : setE.T) (p3 : takeE.T) (p4 : latchE.T) (c : Cfg) (got held : List Int) : F (Res × List Int) :=
 (p4 [0] c got held).bind fun x0 =>
 (p1 0 c got x0).bind fun x1 =>
 .ite (decide (x1 > c.ids)) (.ret (Res.mk 4 0 [] [] [], x0))
 ((p3 1 c got x0).bind fun x2 =>
 .ite (x2 == 0) (.ret (Res.mk 3 0 [] [] [], x0))
 ((p0 1 x2 0 x1 c got x0).bind fun _ =>
 (p0 1 x2 1 0 c got x0).bind fun _ =>
 (p0 1 x2 2 0 c got x0).bind fun _ =>
 (p0 1 x2 3 0 c got x0).bind fun _ =>
 (p2 0 (w64 (x1 + 1)) c got x0).bind fun _ =>
 (p2 (w64 (x1 + 1)) x2 c got x0).bind fun _ =>
 .ret (Res.mk 0 x1 [] [] [], x0)))
def addF : addE.T := addB storeF wordF setF takeF latchF
abbrev bKj (c : Cfg) (got held : List Int) := (addF c got held).tree
theorem bIo (p0 : storeE.T) (p1 : wordE.T) (p2 : setE.T) (p3 : takeE.T) (p4 : latchE.T) (x) : addE.run [nodeAtE.on nodeAtN, storeE.on p0, wordE.on p1, setE.on p2, takeE.on p3, noneE.on noneF, failedE.on failedN, latchE.on p4] [] [] x = addE.go (addB p0 p1 p2 p3 p4) x some := by kernel_rfl
theorem add_ok : addE.Ok addF := Ge.k (by kernel_rfl) (nodeAt_ok.k (store_ok.k (word_ok.k (set_ok.k (take_ok.k (none_ok.k (failed_ok.k (latch_ok.k g0)))))))) (bD (by kernel_rfl) (lsz (f := Tryz.f187) (i := 0) (by kernel_rfl) lsn)) (bIo storeF wordF setF takeF latchF)
noncomputable abbrev linkE : Ge := ⟨188, Tryz.f188, [pm, vi, vi], mach, [.s (.e (.st .res))], mach, machP, Res × List Int, fun x a d => ((a.1, ()), ((x.2.1.1, x.2.1.2.1, (), a.2, ()), d, ())), fun o d => ((o.1.1, o.1.2.1, (), (), ()), d, ()), fun o => o.1.2.1, fun o => o.2.1⟩
def bKk (p0 : loadE.T) (p1 : storeE.T) (p2 : wordE.T) (p3 : setE.T) (p4 : takeE.T) (p5 : findE.T) (p6 : knownE.T) (p7 : latchE.T) (a b : Int) (c : Cfg) (got held : List Int) : F (Res × List Int) :=
 (p6 [a, b] c got held).bind fun x0 =>
 .ite (!x0) (.ret (Res.mk 2 0 [] [] [], held))
 ((p7 [0, a, b] c got held).bind fun x1 =>
 (p5 a c got x1).bind fun x2 =>
 .ite (x2 == 0) (.ret (Res.mk 2 0 [] [] [], x1))
 ((p5 b c got x1).bind fun x4 =>
 .ite (x4 == 0) (.ret (Res.mk 2 0 [] [] [], x1))
 ((p2 1 c got x1).bind fun x6 =>
 .ite (decide (x6 > c.edgeIds)) (.ret (Res.mk 4 0 [] [] [], x1))
 ((p4 2 c got x1).bind fun x7 =>
 .ite (x7 == 0) (.ret (Res.mk 3 0 [] [] [], x1))
 ((p1 2 x7 0 x6 c got x1).bind fun _ =>
 (p1 2 x7 1 a c got x1).bind fun _ =>
 (p1 2 x7 2 b c got x1).bind fun _ =>
 (p0 1 x2 1 c got x1).bind fun x12 =>
 (p1 2 x7 3 x12 c got x1).bind fun _ =>
 (p0 1 x4 2 c got x1).bind fun x14 =>
 (p1 2 x7 4 x14 c got x1).bind fun _ =>
 (p3 1 (w64 (x6 + 1)) c got x1).bind fun _ =>
 (p1 1 x2 1 x7 c got x1).bind fun _ =>
 (p1 1 x4 2 x7 c got x1).bind fun _ =>
 (p3 (w64 (w64 (c.ids + 1) + x6)) x7 c got x1).bind fun _ =>
 .ret (Res.mk 0 x6 [] [] [], x1))))))
def linkF : linkE.T := bKk loadF storeF wordF setF takeF findF knownF latchF
abbrev bEo (a b : Int) (c : Cfg) (got held : List Int) := (linkF a b c got held).tree
theorem bEp (p0 : loadE.T) (p1 : storeE.T) (p2 : wordE.T) (p3 : setE.T) (p4 : takeE.T) (p5 : findE.T) (p6 : knownE.T) (p7 : latchE.T) (x) : linkE.run [loadE.on p0, storeE.on p1, wordE.on p2, setE.on p3, takeE.on p4, noneE.on noneF, edgeAtE.on edgeAtF, findE.on p5, failedE.on failedN, knownE.on p6, latchE.on p7] [] [] x = linkE.go (bKk p0 p1 p2 p3 p4 p5 p6 p7) x some := by kernel_rfl
theorem link_ok : linkE.Ok linkF := Ge.k (by kernel_rfl) (load_ok.k (store_ok.k (word_ok.k (set_ok.k (take_ok.k (none_ok.k (edgeAt_ok.k (find_ok.k (failed_ok.k (known_ok.k (latch_ok.k g0))))))))))) (bD (by kernel_rfl) (lsz (f := Tryz.f188) (i := 0) (by kernel_rfl) (lsz (f := Tryz.f188) (i := 1) (by kernel_rfl) lsn))) (bEp loadF storeF wordF setF takeF findF knownF latchF)
noncomputable abbrev cutL0E : He := ⟨2, Tryz.f189, 0, [0, 1, 4, 5], [pm, vi, .s (.ptr 2 0), .s (.ptr 3 0)], [.box [.e (.st .cfg), .e (.sl .int), .own 1, .sln .int], .arr (.st .acc), .box [.e (.st .res)], .box [.e .int, .e .int]], ((Fin.one 2 Tryz.f189.ntmps .ret [4] [.s (.ptr 2 0)] [.box [.e (.st .cfg), .e (.sl .int), .own 1, .sln .int], .arr (.st .acc), .box [.e .int, .e .int, .e (.sl (.st .pr)), .e (.sl (.st .en)), .e (.sl (.st .en))]]).or (Fin.pan 2 188 (.agg []) machP)), Int → Cfg → List Int → Res → List Int → Int → Int → F (List Int × Int), List Int × Int, fun t x => t x.1.2.1 x.2.1.1 x.2.1.2.1 x.2.2.2.1.1 x.2.1.2.2.2.1 x.2.2.2.2.1.1 x.2.2.2.2.1.2.1, fun x a d K => K (Sum.inl ((((), ()), ((x.2.1.1, x.2.1.2.1, (), a.1, ()), d, (a.2, 0, [], [], [], ()), ())))), fun x d => Sum.inr ((((), ()), ((x.2.1.1, x.2.1.2.1, (), (), ()), d, ()))), fun x => x.2.1.2.1, fun x => x.2.2.1, fun _ _ _ _ => rfl⟩
def bEq (x : cutL0E.X) (s : List Int × Int × Int) (d : List Acc) : cutL0E.X := (((), x.1.2.1, (), (), ()), ((x.2.1.1, x.2.1.2.1, (), s.1, ()), d, (x.2.2.2.1.1, ()), (s.2.1, s.2.2, ()), ()))
def aRv (p0 : loadE.T) (p1 : retireE.T) (p2 : wordE.T) (p3 : setE.T) (p4 : unlinkE.T) (p5 : freeE.T) (p6 : latchE.T) (v1 : Int) (c : Cfg) (got : List Int) (v9 : Res) (st : List Int × Int × Int) : F ((List Int × Int × Int) ⊕ (List Int × Int)) :=
 let held := st.1; let v10 := st.2.1; let v11 := st.2.2; 
 (p2 (w64 (w64 (c.ids + 1) + v1)) c got held).bind fun x1 =>
 .ite (x1 == 0) (.ret (Sum.inr (held, 2)))
 ((p0 2 x1 1 c got held).bind fun x4 =>
 (p0 2 x1 2 c got held).bind fun x5 =>
 .ite (!held.isEmpty) ((F.gd (mH [x4, x5] && mH held) ()).bind fun _ =>
 .ite (xK [x4, x5] held) ((p4 (Sid.mk 1 3 1 2) x4 2 x1 c got held).bind fun _ =>
 (p4 (Sid.mk 2 4 2 1) x5 2 x1 c got held).bind fun _ =>
 (p3 (w64 (w64 (c.ids + 1) + v1)) 0 c got held).bind fun _ =>
 (p1 2 x1 c got held).bind fun _ =>
 .ret (Sum.inr (held, 0)))
 ((p5 c got held).bind fun _ =>
 (p6 [x4, x5] c got []).bind fun x8 =>
 .ret (Sum.inl (x8, x4, x5))))
 ((p5 c got held).bind fun _ =>
 (p6 [x4, x5] c got []).bind fun x7 =>
 .ret (Sum.inl (x7, x4, x5))))
abbrev aFe (v1 : Int) (c : Cfg) (got : List Int) (v9 : Res) (st : List Int × Int × Int) := (aRv loadF retireF wordF setF unlinkF freeF latchF v1 c got v9 st).tree
def cutL0F : cutL0E.LT := fun v1 c got v9 s0 s1 s2 => .tr (T.loop (aFe v1 c got v9) (got.length + 10) (s0, s1, s2))
theorem aZm (p0 : loadE.T) (p1 : retireE.T) (p2 : wordE.T) (p3 : setE.T) (p4 : unlinkE.T) (p5 : freeE.T) (p6 : latchE.T) (x) : cutL0E.run [loadE.on p0, retireE.on p1, wordE.on p2, setE.on p3, edgeE.on edgeF, noneE.on noneF, edgeAtE.on edgeAtF, failedE.on failedN, unlinkE.on p4, ordWithinE.on, freeE.on p5, latchE.on p6] [] [] x = cutL0E.go1 bEq (aRv p0 p1 p2 p3 p4 p5 p6 x.1.2.1 x.2.1.1 x.2.1.2.1 x.2.2.2.1.1 (x.2.1.2.2.2.1, x.2.2.2.2.1.1, x.2.2.2.2.1.2.1)) x := by kernel_rfl
theorem bEr : cutL0E.Ok cutL0F := He.k bEq (fun x => (x.2.1.2.2.2.1, x.2.2.2.2.1.1, x.2.2.2.2.1.2.1)) (fun x s => aRv loadF retireF wordF setF unlinkF freeF latchF x.1.2.1 x.2.1.1 x.2.1.2.1 x.2.2.2.1.1 s) (fo f1 fp) (load_ok.k (retire_ok.k (word_ok.k (set_ok.k (edge_ok.k (none_ok.k (edgeAt_ok.k (failed_ok.k (unlink_ok.k (ordWithinU_ok.k (freeF_ok.k (latch_ok.k g0)))))))))))) (bD (by kernel_rfl) (lsz (f := Tryz.f189) (i := 1) (by kernel_rfl) lsn)) (aZm loadF retireF wordF setF unlinkF freeF latchF) (fun _ => rfl) (fun _ => rfl) (fun _ _ _ => rfl) (fun _ _ _ => ⟨rfl, rfl⟩)
noncomputable abbrev cutE : Ge := ⟨189, Tryz.f189, [pm, vi], mach, [.s (.e (.st .res))], mach, machP, Res × List Int, fun x a d => ((a.1, ()), ((x.2.1.1, x.2.1.2.1, (), a.2, ()), d, ())), fun o d => ((o.1.1, o.1.2.1, (), (), ()), d, ()), fun o => o.1.2.1, fun o => o.2.1⟩
def cutB (p0 : loadE.T) (p1 : retireE.T) (p2 : wordE.T) (p3 : setE.T) (p4 : unlinkE.T) (p5 : freeE.T) (p6 : latchE.T) (p7 : cutL0E.LT) (i : Int) (c : Cfg) (got held : List Int) : F (Res × List Int) :=
 .ite (decide (i < 1)) (.ret (Res.mk 2 0 [] [] [], held))
 (.ite (decide (i > c.edgeIds)) (.ret (Res.mk 2 0 [] [] [], held))
 ((p7 i c got (Res.mk 0 0 [] [] []) held 0 0).bind fun x0 =>
 .ret (Res.mk x0.2 0 [] [] [], x0.1)))
def cutF : cutE.T := cutB loadF retireF wordF setF unlinkF freeF latchF cutL0F
abbrev bKl (i : Int) (c : Cfg) (got held : List Int) := (cutF i c got held).tree
theorem bIp (p0 : loadE.T) (p1 : retireE.T) (p2 : wordE.T) (p3 : setE.T) (p4 : unlinkE.T) (p5 : freeE.T) (p6 : latchE.T) (p7 : cutL0E.LT) (x) : cutE.run [loadE.on p0, retireE.on p1, wordE.on p2, setE.on p3, edgeE.on edgeF, noneE.on noneF, edgeAtE.on edgeAtF, failedE.on failedN, unlinkE.on p4, ordWithinE.on, freeE.on p5, latchE.on p6] [(4, cutL0E.on p7)] [] x = cutE.go (cutB p0 p1 p2 p3 p4 p5 p6 p7) x some := by kernel_rfl
theorem cut_ok : cutE.Ok cutF := Ge.k (by kernel_rfl) (load_ok.k (retire_ok.k (word_ok.k (set_ok.k (edge_ok.k (none_ok.k (edgeAt_ok.k (failed_ok.k (unlink_ok.k (ordWithinU_ok.k (freeF_ok.k (latch_ok.k g0)))))))))))) (bD (by kernel_rfl) (lhc (by kernel_rfl) bEr rfl (lsz (f := Tryz.f189) (i := 1) (by kernel_rfl) lsn))) (bIp loadF retireF wordF setF unlinkF freeF latchF cutL0F)
abbrev bNc : List OSh := [.box [.e (.st .cfg), .e (.sl .int), .own 1, .sln .int], .arr (.st .acc), .arr .int]
abbrev bEs : List OSh := [.box [.e (.st .cfg), .e (.sl .int), .own 3, .any], .any, .any, .arr (.st .acc), .any]
abbrev aLw : List OSh := [.box [.e (.st .cfg), .e (.sl .int), .own 3, .sln .int], .box [.own 4], .box [.e (.st .sid)], .arr (.st .acc), .arr .int]
noncomputable abbrev aroundCE : Ge := ⟨300, Tryz.f300, [rc, .s (.ptr 1 0), .s (.ptr 2 0)], aLw, [], aLw, bEs, List Int, fun x a d => ((), ((x.2.1.1, x.2.1.2.1, (), x.2.1.2.2.2.1, ()), ((), ()), (x.2.2.2.1.1, ()), d, a, ())), fun o d => ((o.1.1, o.1.2.1, (), (), ()), (), (), d, (), ()), fun o => o.1.2.1, fun o => o.2.2.2.1⟩
def aCw (p0 : loadE.T) (w r : Int) (c : Cfg) (got held : List Int) (sd : Sid) (us : List Int) : F (List Int) :=
 (p0 w r sd.other c got held).bind fun x0 =>
 .ite (decide (us.length + [x0].length ≤ 1000000000)) (.ret (us ++ [x0]))
 (.tr .bot)
def aroundCF : aroundCE.T := aCw loadF
theorem aLx (p0 : loadE.T) (x) : aroundCE.run [loadE.on p0] [] [] x = aroundCE.go (aCw p0) x some := by kernel_rfl
theorem aroundC_ok : aroundCE.Ok aroundCF := Ge.k (by kernel_rfl) (load_ok.k g0) (aA (by kernel_rfl)) (aLx loadF)
noncomputable abbrev eachAL0E : He := ⟨5, Tryz.f260, 0, [3, 6, 8], [.clo 300 [.ptr 1 0, .ptr 2 0], .s (.ptr 5 0), .s (.ptr 6 0)], [.box [.e (.st .cfg), .e (.sl .int), .own 3, .sln .int], .box [.own 4], .box [.e (.st .sid)], .arr (.st .acc), .arr .int, .box [.e (.st .sid)], .box [.ptr 0 0, .e .int, .e .int]], ((Fin.one 5 Tryz.f260.ntmps (.exit 0) [] [] aLw).or (Fin.pan 5 188 (.agg []) bEs)), Cfg → List Int → List Int → Sid → Sid → Int → List Int → Int → F (List Int), List Int, fun t x => t x.2.1.1 x.2.1.2.1 x.2.1.2.2.2.1 x.2.2.2.1.1 x.2.2.2.2.2.2.1.1 x.2.2.2.2.2.2.2.1.2.1 x.2.2.2.2.2.1 x.2.2.2.2.2.2.2.1.2.2.1, fun x a d K => K (Sum.inl (((), ((x.2.1.1, x.2.1.2.1, (), x.2.1.2.2.2.1, ()), ((), ()), (x.2.2.2.1.1, ()), d, a, ())))), fun x d => Sum.inr ((((), ()), ((x.2.1.1, x.2.1.2.1, (), (), ()), (), (), d, (), ()))), fun x => x.2.1.2.1, fun x => x.2.2.2.2.1, fun _ _ _ _ => rfl⟩
def aLy (x : eachAL0E.X) (s : List Int × Int) (d : List Acc) : eachAL0E.X := ((((), (), ()), (), (), ()), ((x.2.1.1, x.2.1.2.1, (), x.2.1.2.2.2.1, ()), ((), ()), (x.2.2.2.1.1, ()), d, s.1, (x.2.2.2.2.2.2.1.1, ()), ((), x.2.2.2.2.2.2.2.1.2.1, s.2, ()), ()))
def uN (p0 : nextE.T) (p1 : aroundCE.T) (c : Cfg) (got held : List Int) (sd v12 : Sid) (v14 : Int) (st : List Int × Int) : F ((List Int × Int) ⊕ (List Int)) :=
 let us := st.1; let v15 := st.2; 
 .ite (!v15 == 0) ((p1 v14 v15 c got held sd us).bind fun x1 =>
 (p0 v14 v15 v12.link c got held).bind fun x2 =>
 .ret (Sum.inl (x1, x2)))
 (.ret (Sum.inr us))
abbrev xM (c : Cfg) (got held : List Int) (sd v12 : Sid) (v14 : Int) (st : List Int × Int) := (uN nextF aroundCF c got held sd v12 v14 st).tree
def eachAL0F : eachAL0E.LT := fun c got held sd v12 v14 s0 s1 => .tr (T.loop (xM c got held sd v12 v14) (got.length + 10) (s0, s1))
theorem aLz (p0 : nextE.T) (p1 : aroundCE.T) (x) : eachAL0E.run [loadE.on loadF, nextE.on p0, edgeE.on edgeF, noneE.on noneF, aroundCE.on p1] [] [] x = eachAL0E.go1 aLy (uN p0 p1 x.2.1.1 x.2.1.2.1 x.2.1.2.2.2.1 x.2.2.2.1.1 x.2.2.2.2.2.2.1.1 x.2.2.2.2.2.2.2.1.2.1 (x.2.2.2.2.2.1, x.2.2.2.2.2.2.2.1.2.2.1)) x := by kernel_rfl
theorem aRw : eachAL0E.Ok eachAL0F := He.k aLy (fun x => (x.2.2.2.2.2.1, x.2.2.2.2.2.2.2.1.2.2.1)) (fun x s => uN nextF aroundCF x.2.1.1 x.2.1.2.1 x.2.1.2.2.2.1 x.2.2.2.1.1 x.2.2.2.2.2.2.1.1 x.2.2.2.2.2.2.2.1.2.1 s) (fo f1 fp) (load_ok.k (next_ok.k (edge_ok.k (none_ok.k (aroundC_ok.k g0))))) (aA (by kernel_rfl)) (aLz nextF aroundCF) (fun _ => rfl) (fun _ => rfl) (fun _ _ _ => rfl) (fun _ _ _ => ⟨rfl, rfl⟩)
noncomputable abbrev eachAE : Ge := ⟨260, Tryz.f260, [pm, rc, .s (.e (.st .sid)), .clo 300 [.ptr 1 0, .ptr 2 0]], aLw, [], aLw, bEs, List Int, fun x a d => ((), ((x.2.1.1, x.2.1.2.1, (), x.2.1.2.2.2.1, ()), ((), ()), (x.2.2.2.1.1, ()), d, a, ())), fun o d => ((o.1.1, o.1.2.1, (), (), ()), (), (), d, (), ()), fun o => o.1.2.1, fun o => o.2.2.2.1⟩
def bEt (p0 : loadE.T) (p1 : nextE.T) (p2 : aroundCE.T) (p3 : eachAL0E.LT) (w r : Int) (s : Sid) (c : Cfg) (got held : List Int) (sd : Sid) (us : List Int) : F (List Int) :=
 (p0 w r s.head c got held).bind fun x0 =>
 (p3 c got held sd s 2 us x0).bind fun x2 =>
 .ret x2
def eachAF : eachAE.T := bEt loadF nextF aroundCF eachAL0F
abbrev aVh (w r : Int) (s : Sid) (c : Cfg) (got held : List Int) (sd : Sid) (us : List Int) := (eachAF w r s c got held sd us).tree
theorem aZn (p0 : loadE.T) (p1 : nextE.T) (p2 : aroundCE.T) (p3 : eachAL0E.LT) (x) : eachAE.run [loadE.on p0, nextE.on p1, edgeE.on edgeF, noneE.on noneF, aroundCE.on p2] [(2, eachAL0E.on p3)] [] x = eachAE.go (bEt p0 p1 p2 p3) x some := by kernel_rfl
theorem eachA_ok : eachAE.Ok eachAF := Ge.k (by kernel_rfl) (load_ok.k (next_ok.k (edge_ok.k (none_ok.k (aroundC_ok.k g0))))) (bD (by kernel_rfl) (lhc (by kernel_rfl) aRw rfl lsn)) (aZn loadF nextF aroundCF eachAL0F)
noncomputable abbrev aroundE : Ge := ⟨293, Tryz.f293, [pm, rc], mach, [.s (.own 2)], bNc, machP, List Int, fun x a d => (((), ()), ((x.2.1.1, x.2.1.2.1, (), x.2.1.2.2.2.1, ()), d, a, ())), fun o d => ((o.1.1, o.1.2.1, (), (), ()), d, ()), fun o => o.1.2.1, fun o => o.2.1⟩
def aVi (p0 : eachAE.T) (w r : Int) (c : Cfg) (got held : List Int) : F (List Int) :=
 (p0 w r (Sid.mk 1 3 1 2) c got held (Sid.mk 1 3 1 2) []).bind fun x0 =>
 (p0 w r (Sid.mk 2 4 2 1) c got held (Sid.mk 2 4 2 1) x0).bind fun x1 =>
 .ret x1
def aroundF : aroundE.T := aVi eachAF
abbrev aMa (w r : Int) (c : Cfg) (got held : List Int) := (aroundF w r c got held).tree
theorem aRx (p0 : eachAE.T) (x) : aroundE.run [eachAE.on p0] [] [(1, [(5, some 0, .int)])] x = aroundE.go (aVi p0) x some := by kernel_rfl
theorem around_ok : aroundE.Ok aroundF := Ge.k (by kernel_rfl) (eachA_ok.k g0) (bD (by kernel_rfl) (lsz (f := Tryz.f293) (i := 0) (by kernel_rfl) lsn)) (aRx eachAF)
abbrev bEu : List OSh := [.box [.e (.st .cfg), .e (.sl .int), .own 2, .any], .any, .arr (.st .acc)]
abbrev bEv : List OSh := [.box [.e (.st .cfg), .e (.sl .int), .own 2, .any], .any, .arr (.st .acc), .any]
abbrev aFf : List OSh := [.box [.e (.st .cfg), .e (.sl .int), .own 3, .any], .any, .any, .arr (.st .acc)]
abbrev aFg : List OSh := [.box [.e (.st .cfg), .e (.sl .int), .own 2, .sln .int], .box [.e .int], .arr (.st .acc)]
abbrev aFh : List OSh := [.box [.e (.st .cfg), .e (.sl .int), .own 3, .sln .int], .box [.e .int], .box [.e .int], .arr (.st .acc)]
abbrev aFi : List OSh := [.box [.e (.st .cfg), .e (.sl .int), .own 3, .sln .int], .box [.e .int], .box [.ptr 0 0, .e .int, .e .int], .arr (.st .acc)]
abbrev aFj : List OSh := [.box [.e (.st .cfg), .e (.sl .int), .own 2, .sln .int], .box [.e .int, .e .int, .own 3, .e (.sl (.st .en)), .e (.sl (.st .en))], .arr (.st .acc), .arr (.st .pr)]
noncomputable abbrev setCE : Ge := ⟨253, Tryz.f253, [rc, rc, .s (.ptr 1 0), .s (.ptr 2 0)], aFh, [vb], aFh, aFf, Bool, fun x a d => ((a, ()), ((x.2.1.1, x.2.1.2.1, (), x.2.1.2.2.2.1, ()), (x.2.2.1.1, ()), (x.2.2.2.1.1, ()), d, ())), fun o d => ((o.1.1, o.1.2.1, (), (), ()), (), (), d, ()), fun o => o.1.2.1, fun o => o.2.2.2.1⟩
def bEw (p0 : loadE.T) (p1 : storeE.T) (w r w2 r2 : Int) (c : Cfg) (got held : List Int) (k v : Int) : F (Bool) :=
 (p0 w r 0 c got held).bind fun x0 =>
 .ite (x0 != k) (.ret false)
 ((p1 w r 1 v c got held).bind fun _ =>
 .ret true)
def setCF : setCE.T := bEw loadF storeF
theorem bEx (p0 : loadE.T) (p1 : storeE.T) (x) : setCE.run [loadE.on p0, storeE.on p1] [] [] x = setCE.go (bEw p0 p1) x some := by kernel_rfl
theorem setC_ok : setCE.Ok setCF := Ge.k (by kernel_rfl) (load_ok.k (store_ok.k g0)) (aA (by kernel_rfl)) (bEx loadF storeF)
noncomputable abbrev walkSL0E : He := ⟨4, Tryz.f252, 0, [2, 7, 8], [.clo 253 [.ptr 1 0, .ptr 2 0], .s (.ptr 4 0), .s (.ptr 5 0)], [.box [.e (.st .cfg), .e (.sl .int), .own 3, .sln .int], .box [.e .int], .box [.e .int], .arr (.st .acc), .box [.ptr 0 0, .e .int, .e .int], .box [.ptr 0 0, .e .int, .e .int]], ((Fin.one 4 Tryz.f252.ntmps (.exit 0) [] [] aFh).or ((Fin.one 4 Tryz.f252.ntmps .ret [6] [vb] aFh).or (Fin.pan 4 188 (.agg []) aFf))), Cfg → List Int → List Int → Int → Int → Int → Int → Int → Int → F (Unit ⊕ Unit), Unit ⊕ Unit, fun t x => t x.2.1.1 x.2.1.2.1 x.2.1.2.2.2.1 x.2.2.1.1 x.2.2.2.1.1 x.2.2.2.2.2.2.1.2.1 x.2.2.2.2.2.1.2.1 x.2.2.2.2.2.1.2.2.1 x.2.2.2.2.2.2.1.2.2.1, fun x a d K => aH a (fun b => K (Sum.inl (((), ((x.2.1.1, x.2.1.2.1, (), x.2.1.2.2.2.1, ()), (x.2.2.1.1, ()), (x.2.2.2.1.1, ()), d, ()))))) (fun b => K (Sum.inr (Sum.inl (((true, ()), ((x.2.1.1, x.2.1.2.1, (), x.2.1.2.2.2.1, ()), (x.2.2.1.1, ()), (x.2.2.2.1.1, ()), d, ())))))), fun x d => Sum.inr (Sum.inr ((((), ()), ((x.2.1.1, x.2.1.2.1, (), (), ()), (), (), d, ())))), fun x => x.2.1.2.1, fun x => x.2.2.2.2.1, fun _ a _ _ => by cases a <;> rfl⟩
def aMb (x : walkSL0E.X) (s : Int × Int × Int) (d : List Acc) : walkSL0E.X := ((((), (), ()), (), (), ()), ((x.2.1.1, x.2.1.2.1, (), x.2.1.2.2.2.1, ()), (x.2.2.1.1, ()), (x.2.2.2.1.1, ()), d, ((), s.1, s.2.1, ()), ((), x.2.2.2.2.2.2.1.2.1, s.2.2, ()), ()))
def aCx (p0 : nextE.T) (p1 : setCE.T) (c : Cfg) (got held : List Int) (k v v15 : Int) (st : Int × Int × Int) : F ((Int × Int × Int) ⊕ (Unit ⊕ Unit)) :=
 let v12 := st.1; let v13 := st.2.1; let v16 := st.2.2; 
 .ite (!v16 == 0) ((p1 v15 v16 v12 v13 c got held k v).bind fun x1 =>
 .ite (x1) (.ret (Sum.inr (Sum.inr (()))))
 ((p0 v15 v16 2 c got held).bind fun x2 =>
 .ret (Sum.inl (v15, v16, x2))))
 (.ret (Sum.inr (Sum.inl (()))))
abbrev xN (c : Cfg) (got held : List Int) (k v v15 : Int) (st : Int × Int × Int) := (aCx nextF setCF c got held k v v15 st).tree
def walkSL0F : walkSL0E.LT := fun c got held k v v15 s0 s1 s2 => .tr (T.loop (xN c got held k v v15) (got.length + 10) (s0, s1, s2))
theorem aMc (p0 : nextE.T) (p1 : setCE.T) (x) : walkSL0E.run [nextE.on p0, propE.on propF, noneE.on noneF, setCE.on p1] [] [] x = walkSL0E.go1 aMb (aCx p0 p1 x.2.1.1 x.2.1.2.1 x.2.1.2.2.2.1 x.2.2.1.1 x.2.2.2.1.1 x.2.2.2.2.2.2.1.2.1 (x.2.2.2.2.2.1.2.1, x.2.2.2.2.2.1.2.2.1, x.2.2.2.2.2.2.1.2.2.1)) x := by kernel_rfl
theorem aRy : walkSL0E.Ok walkSL0F := He.k aMb (fun x => (x.2.2.2.2.2.1.2.1, x.2.2.2.2.2.1.2.2.1, x.2.2.2.2.2.2.1.2.2.1)) (fun x s => aCx nextF setCF x.2.1.1 x.2.1.2.1 x.2.1.2.2.2.1 x.2.2.1.1 x.2.2.2.1.1 x.2.2.2.2.2.2.1.2.1 s) (fo f1 (fo f1 fp)) (next_ok.k (prop_ok.k (none_ok.k (setC_ok.k g0)))) (aA (by kernel_rfl)) (aMc nextF setCF) (fun _ => rfl) (fun _ => rfl) (fun _ _ _ => rfl) (fun _ _ _ => ⟨rfl, rfl⟩)
noncomputable abbrev walkSE : Ge := ⟨252, Tryz.f252, [pm, rc, .clo 253 [.ptr 1 0, .ptr 2 0]], aFh, [vb], aFh, aFf, Bool, fun x a d => ((a, ()), ((x.2.1.1, x.2.1.2.1, (), x.2.1.2.2.2.1, ()), (x.2.2.1.1, ()), (x.2.2.2.1.1, ()), d, ())), fun o d => ((o.1.1, o.1.2.1, (), (), ()), (), (), d, ()), fun o => o.1.2.1, fun o => o.2.2.2.1⟩
def bEy (p0 : nextE.T) (p1 : setCE.T) (p2 : walkSL0E.LT) (w r : Int) (c : Cfg) (got held : List Int) (k v : Int) : F (Bool) :=
 (p2 c got held k v w 3 0 r).bind fun b1 => .sel b1 (fun x1 => .ret false)
 (fun y1 => .ret true)
def walkSF : walkSE.T := bEy nextF setCF walkSL0F
abbrev aVj (w r : Int) (c : Cfg) (got held : List Int) (k v : Int) := (walkSF w r c got held k v).tree
theorem aZo (p0 : nextE.T) (p1 : setCE.T) (p2 : walkSL0E.LT) (x) : walkSE.run [nextE.on p0, propE.on propF, noneE.on noneF, setCE.on p1] [(3, walkSL0E.on p2)] [] x = walkSE.go (bEy p0 p1 p2) x some := by kernel_rfl
theorem walkS_ok : walkSE.Ok walkSF := Ge.k (by kernel_rfl) (next_ok.k (prop_ok.k (none_ok.k (setC_ok.k g0)))) (bD (by kernel_rfl) (lhc (by kernel_rfl) aRy rfl lsn)) (aZo nextF setCF walkSL0F)
noncomputable abbrev delCE : Ge := ⟨254, Tryz.f254, [rc, rc, .s (.ptr 1 0), .s (.ptr 2 0)], aFi, [vb], aFi, aFf, Bool, fun x a d => ((a, ()), ((x.2.1.1, x.2.1.2.1, (), x.2.1.2.2.2.1, ()), (x.2.2.1.1, ()), ((), x.2.2.2.1.2.1, x.2.2.2.1.2.2.1, ()), d, ())), fun o d => ((o.1.1, o.1.2.1, (), (), ()), (), (), d, ()), fun o => o.1.2.1, fun o => o.2.2.2.1⟩
def bEz (p0 : loadE.T) (p1 : storeE.T) (p2 : retireE.T) (w r w2 r2 : Int) (c : Cfg) (got held : List Int) (k w3 r3 : Int) : F (Bool) :=
 (p0 w r 0 c got held).bind fun x0 =>
 .ite (x0 != k) (.ret false)
 ((p0 w r 2 c got held).bind fun x1 =>
 .ite (r2 == 0) ((p1 w3 r3 3 x1 c got held).bind fun _ =>
 (p2 w r c got held).bind fun _ =>
 .ret true)
 ((p1 w2 r2 2 x1 c got held).bind fun _ =>
 (p2 w r c got held).bind fun _ =>
 .ret true))
def delCF : delCE.T := bEz loadF storeF retireF
theorem bFa (p0 : loadE.T) (p1 : storeE.T) (p2 : retireE.T) (x) : delCE.run [loadE.on p0, storeE.on p1, retireE.on p2, noneE.on noneF] [] [] x = delCE.go (bEz p0 p1 p2) x some := by kernel_rfl
theorem delC_ok : delCE.Ok delCF := Ge.k (by kernel_rfl) (load_ok.k (store_ok.k (retire_ok.k (none_ok.k g0)))) (aA (by kernel_rfl)) (bFa loadF storeF retireF)
noncomputable abbrev walkDL0E : He := ⟨4, Tryz.f252, 0, [2, 7, 8], [.clo 254 [.ptr 1 0, .ptr 2 0], .s (.ptr 4 0), .s (.ptr 5 0)], [.box [.e (.st .cfg), .e (.sl .int), .own 3, .sln .int], .box [.e .int], .box [.ptr 0 0, .e .int, .e .int], .arr (.st .acc), .box [.ptr 0 0, .e .int, .e .int], .box [.ptr 0 0, .e .int, .e .int]], ((Fin.one 4 Tryz.f252.ntmps (.exit 0) [] [] aFi).or ((Fin.one 4 Tryz.f252.ntmps .ret [6] [vb] aFi).or (Fin.pan 4 188 (.agg []) aFf))), Cfg → List Int → List Int → Int → Int → Int → Int → Int → Int → Int → F (Unit ⊕ Unit), Unit ⊕ Unit, fun t x => t x.2.1.1 x.2.1.2.1 x.2.1.2.2.2.1 x.2.2.1.1 x.2.2.2.1.2.1 x.2.2.2.1.2.2.1 x.2.2.2.2.2.2.1.2.1 x.2.2.2.2.2.1.2.1 x.2.2.2.2.2.1.2.2.1 x.2.2.2.2.2.2.1.2.2.1, fun x a d K => aH a (fun b => K (Sum.inl (((), ((x.2.1.1, x.2.1.2.1, (), x.2.1.2.2.2.1, ()), (x.2.2.1.1, ()), ((), x.2.2.2.1.2.1, x.2.2.2.1.2.2.1, ()), d, ()))))) (fun b => K (Sum.inr (Sum.inl (((true, ()), ((x.2.1.1, x.2.1.2.1, (), x.2.1.2.2.2.1, ()), (x.2.2.1.1, ()), ((), x.2.2.2.1.2.1, x.2.2.2.1.2.2.1, ()), d, ())))))), fun x d => Sum.inr (Sum.inr ((((), ()), ((x.2.1.1, x.2.1.2.1, (), (), ()), (), (), d, ())))), fun x => x.2.1.2.1, fun x => x.2.2.2.2.1, fun _ a _ _ => by cases a <;> rfl⟩
def aMd (x : walkDL0E.X) (s : Int × Int × Int) (d : List Acc) : walkDL0E.X := ((((), (), ()), (), (), ()), ((x.2.1.1, x.2.1.2.1, (), x.2.1.2.2.2.1, ()), (x.2.2.1.1, ()), ((), x.2.2.2.1.2.1, x.2.2.2.1.2.2.1, ()), d, ((), s.1, s.2.1, ()), ((), x.2.2.2.2.2.2.1.2.1, s.2.2, ()), ()))
def aCy (p0 : nextE.T) (p1 : delCE.T) (c : Cfg) (got held : List Int) (k w3 r3 v17 : Int) (st : Int × Int × Int) : F ((Int × Int × Int) ⊕ (Unit ⊕ Unit)) :=
 let v14 := st.1; let v15 := st.2.1; let v18 := st.2.2; 
 .ite (!v18 == 0) ((p1 v17 v18 v14 v15 c got held k w3 r3).bind fun x1 =>
 .ite (x1) (.ret (Sum.inr (Sum.inr (()))))
 ((p0 v17 v18 2 c got held).bind fun x2 =>
 .ret (Sum.inl (v17, v18, x2))))
 (.ret (Sum.inr (Sum.inl (()))))
abbrev xO (c : Cfg) (got held : List Int) (k w3 r3 v17 : Int) (st : Int × Int × Int) := (aCy nextF delCF c got held k w3 r3 v17 st).tree
def walkDL0F : walkDL0E.LT := fun c got held k w3 r3 v17 s0 s1 s2 => .tr (T.loop (xO c got held k w3 r3 v17) (got.length + 10) (s0, s1, s2))
theorem aMe (p0 : nextE.T) (p1 : delCE.T) (x) : walkDL0E.run [nextE.on p0, propE.on propF, noneE.on noneF, delCE.on p1] [] [] x = walkDL0E.go1 aMd (aCy p0 p1 x.2.1.1 x.2.1.2.1 x.2.1.2.2.2.1 x.2.2.1.1 x.2.2.2.1.2.1 x.2.2.2.1.2.2.1 x.2.2.2.2.2.2.1.2.1 (x.2.2.2.2.2.1.2.1, x.2.2.2.2.2.1.2.2.1, x.2.2.2.2.2.2.1.2.2.1)) x := by kernel_rfl
theorem aRz : walkDL0E.Ok walkDL0F := He.k aMd (fun x => (x.2.2.2.2.2.1.2.1, x.2.2.2.2.2.1.2.2.1, x.2.2.2.2.2.2.1.2.2.1)) (fun x s => aCy nextF delCF x.2.1.1 x.2.1.2.1 x.2.1.2.2.2.1 x.2.2.1.1 x.2.2.2.1.2.1 x.2.2.2.1.2.2.1 x.2.2.2.2.2.2.1.2.1 s) (fo f1 (fo f1 fp)) (next_ok.k (prop_ok.k (none_ok.k (delC_ok.k g0)))) (aA (by kernel_rfl)) (aMe nextF delCF) (fun _ => rfl) (fun _ => rfl) (fun _ _ _ => rfl) (fun _ _ _ => ⟨rfl, rfl⟩)
noncomputable abbrev walkDE : Ge := ⟨252, Tryz.f252, [pm, rc, .clo 254 [.ptr 1 0, .ptr 2 0]], aFi, [vb], aFi, aFf, Bool, fun x a d => ((a, ()), ((x.2.1.1, x.2.1.2.1, (), x.2.1.2.2.2.1, ()), (x.2.2.1.1, ()), ((), x.2.2.2.1.2.1, x.2.2.2.1.2.2.1, ()), d, ())), fun o d => ((o.1.1, o.1.2.1, (), (), ()), (), (), d, ()), fun o => o.1.2.1, fun o => o.2.2.2.1⟩
def bFb (p0 : nextE.T) (p1 : delCE.T) (p2 : walkDL0E.LT) (w r : Int) (c : Cfg) (got held : List Int) (k w3 r3 : Int) : F (Bool) :=
 (p2 c got held k w3 r3 w 3 0 r).bind fun b1 => .sel b1 (fun x1 => .ret false)
 (fun y1 => .ret true)
def walkDF : walkDE.T := bFb nextF delCF walkDL0F
abbrev aVk (w r : Int) (c : Cfg) (got held : List Int) (k w3 r3 : Int) := (walkDF w r c got held k w3 r3).tree
theorem aZp (p0 : nextE.T) (p1 : delCE.T) (p2 : walkDL0E.LT) (x) : walkDE.run [nextE.on p0, propE.on propF, noneE.on noneF, delCE.on p1] [(3, walkDL0E.on p2)] [] x = walkDE.go (bFb p0 p1 p2) x some := by kernel_rfl
theorem walkD_ok : walkDE.Ok walkDF := Ge.k (by kernel_rfl) (next_ok.k (prop_ok.k (none_ok.k (delC_ok.k g0)))) (bD (by kernel_rfl) (lhc (by kernel_rfl) aRz rfl lsn)) (aZp nextF delCF walkDL0F)
noncomputable abbrev pairsCE : Ge := ⟨256, Tryz.f256, [rc, rc, .s (.ptr 1 0)], aFj, [vb], aFj, bEv, List Pr, fun x a d => ((false, ()), ((x.2.1.1, x.2.1.2.1, (), x.2.1.2.2.2.1, ()), (x.2.2.1.1, x.2.2.1.2.1, (), x.2.2.1.2.2.2.1, x.2.2.1.2.2.2.2.1, ()), d, a, ())), fun o d => ((o.1.1, o.1.2.1, (), (), ()), (), d, (), ()), fun o => o.1.2.1, fun o => o.2.2.1⟩
def aHq (p0 : loadE.T) (w r w2 r2 : Int) (c : Cfg) (got held : List Int) (er id : Int) (eo ei : List En) (pr : List Pr) : F (List Pr) :=
 (p0 w r 0 c got held).bind fun x0 =>
 (p0 w r 1 c got held).bind fun x1 =>
 .ite (decide (pr.length + [Pr.mk x0 x1].length ≤ 1000000000)) (.ret (pr ++ [Pr.mk x0 x1]))
 (.tr .bot)
def pairsCF : pairsCE.T := aHq loadF
theorem aSa (p0 : loadE.T) (x) : pairsCE.run [loadE.on p0] [] [] x = pairsCE.go (aHq p0) x some := by kernel_rfl
theorem pairsC_ok : pairsCE.Ok pairsCF := Ge.k (by kernel_rfl) (load_ok.k g0) (aA (by kernel_rfl)) (aSa loadF)
noncomputable abbrev walkPL0E : He := ⟨4, Tryz.f252, 0, [2, 7, 8], [.clo 256 [.ptr 1 0], .s (.ptr 4 0), .s (.ptr 5 0)], [.box [.e (.st .cfg), .e (.sl .int), .own 2, .sln .int], .box [.e .int, .e .int, .own 3, .e (.sl (.st .en)), .e (.sl (.st .en))], .arr (.st .acc), .arr (.st .pr), .box [.ptr 0 0, .e .int, .e .int], .box [.ptr 0 0, .e .int, .e .int]], ((Fin.one 4 Tryz.f252.ntmps (.exit 0) [] [] aFj).or ((Fin.one 4 Tryz.f252.ntmps .ret [6] [vb] aFj).or (Fin.pan 4 188 (.agg []) bEv))), Cfg → List Int → List Int → Int → Int → List En → List En → Int → List Pr → Int → Int → Int → F ((List Pr) ⊕ Unit), (List Pr) ⊕ Unit, fun t x => t x.2.1.1 x.2.1.2.1 x.2.1.2.2.2.1 x.2.2.1.1 x.2.2.1.2.1 x.2.2.1.2.2.2.1 x.2.2.1.2.2.2.2.1 x.2.2.2.2.2.2.1.2.1 x.2.2.2.2.1 x.2.2.2.2.2.1.2.1 x.2.2.2.2.2.1.2.2.1 x.2.2.2.2.2.2.1.2.2.1, fun x a d K => aH a (fun b => K (Sum.inl (((), ((x.2.1.1, x.2.1.2.1, (), x.2.1.2.2.2.1, ()), (x.2.2.1.1, x.2.2.1.2.1, (), x.2.2.1.2.2.2.1, x.2.2.1.2.2.2.2.1, ()), d, b, ()))))) (fun b => K (Sum.inr (Sum.inl (((false, ()), ((x.2.1.1, x.2.1.2.1, (), x.2.1.2.2.2.1, ()), (x.2.2.1.1, x.2.2.1.2.1, (), x.2.2.1.2.2.2.1, x.2.2.1.2.2.2.2.1, ()), d, [], ())))))), fun x d => Sum.inr (Sum.inr ((((), ()), ((x.2.1.1, x.2.1.2.1, (), (), ()), (), d, (), ())))), fun x => x.2.1.2.1, fun x => x.2.2.2.1, fun _ a _ _ => by cases a <;> rfl⟩
def aMf (x : walkPL0E.X) (s : List Pr × Int × Int × Int) (d : List Acc) : walkPL0E.X := ((((), ()), (), (), ()), ((x.2.1.1, x.2.1.2.1, (), x.2.1.2.2.2.1, ()), (x.2.2.1.1, x.2.2.1.2.1, (), x.2.2.1.2.2.2.1, x.2.2.1.2.2.2.2.1, ()), d, s.1, ((), s.2.1, s.2.2.1, ()), ((), x.2.2.2.2.2.2.1.2.1, s.2.2.2, ()), ()))
def uO (p0 : nextE.T) (p1 : pairsCE.T) (c : Cfg) (got held : List Int) (er id : Int) (eo ei : List En) (v18 : Int) (st : List Pr × Int × Int × Int) : F ((List Pr × Int × Int × Int) ⊕ ((List Pr) ⊕ Unit)) :=
 let pr := st.1; let v15 := st.2.1; let v16 := st.2.2.1; let v19 := st.2.2.2; 
 .ite (!v19 == 0) ((p1 v18 v19 v15 v16 c got held er id eo ei pr).bind fun x1 =>
 (p0 v18 v19 2 c got held).bind fun x2 =>
 .ret (Sum.inl (x1, v18, v19, x2)))
 (.ret (Sum.inr (Sum.inl (pr))))
abbrev xP (c : Cfg) (got held : List Int) (er id : Int) (eo ei : List En) (v18 : Int) (st : List Pr × Int × Int × Int) := (uO nextF pairsCF c got held er id eo ei v18 st).tree
def walkPL0F : walkPL0E.LT := fun c got held er id eo ei v18 s0 s1 s2 s3 => .tr (T.loop (xP c got held er id eo ei v18) (got.length + 10) (s0, s1, s2, s3))
theorem aMg (p0 : nextE.T) (p1 : pairsCE.T) (x) : walkPL0E.run [nextE.on p0, propE.on propF, noneE.on noneF, pairsCE.on p1] [] [] x = walkPL0E.go1 aMf (uO p0 p1 x.2.1.1 x.2.1.2.1 x.2.1.2.2.2.1 x.2.2.1.1 x.2.2.1.2.1 x.2.2.1.2.2.2.1 x.2.2.1.2.2.2.2.1 x.2.2.2.2.2.2.1.2.1 (x.2.2.2.2.1, x.2.2.2.2.2.1.2.1, x.2.2.2.2.2.1.2.2.1, x.2.2.2.2.2.2.1.2.2.1)) x := by kernel_rfl
theorem aSb : walkPL0E.Ok walkPL0F := He.k aMf (fun x => (x.2.2.2.2.1, x.2.2.2.2.2.1.2.1, x.2.2.2.2.2.1.2.2.1, x.2.2.2.2.2.2.1.2.2.1)) (fun x s => uO nextF pairsCF x.2.1.1 x.2.1.2.1 x.2.1.2.2.2.1 x.2.2.1.1 x.2.2.1.2.1 x.2.2.1.2.2.2.1 x.2.2.1.2.2.2.2.1 x.2.2.2.2.2.2.1.2.1 s) (fo f1 (fo f1 fp)) (next_ok.k (prop_ok.k (none_ok.k (pairsC_ok.k g0)))) (aA (by kernel_rfl)) (aMg nextF pairsCF) (fun _ => rfl) (fun _ => rfl) (fun _ _ _ => rfl) (fun _ _ _ => ⟨rfl, rfl⟩)
noncomputable abbrev walkPE : Ge := ⟨252, Tryz.f252, [pm, rc, .clo 256 [.ptr 1 0]], aFj, [vb], aFj, bEv, List Pr, fun x a d => ((false, ()), ((x.2.1.1, x.2.1.2.1, (), x.2.1.2.2.2.1, ()), (x.2.2.1.1, x.2.2.1.2.1, (), x.2.2.1.2.2.2.1, x.2.2.1.2.2.2.2.1, ()), d, a, ())), fun o d => ((o.1.1, o.1.2.1, (), (), ()), (), d, (), ()), fun o => o.1.2.1, fun o => o.2.2.1⟩
def bFc (p0 : nextE.T) (p1 : pairsCE.T) (p2 : walkPL0E.LT) (w r : Int) (c : Cfg) (got held : List Int) (er id : Int) (eo ei : List En) (pr : List Pr) : F (List Pr) :=
 (p2 c got held er id eo ei w pr 3 0 r).bind fun b1 => .sel b1 (fun x1 => .ret x1)
 (fun y1 => .ret [])
def walkPF : walkPE.T := bFc nextF pairsCF walkPL0F
abbrev aVl (w r : Int) (c : Cfg) (got held : List Int) (er id : Int) (eo ei : List En) (pr : List Pr) := (walkPF w r c got held er id eo ei pr).tree
theorem aZq (p0 : nextE.T) (p1 : pairsCE.T) (p2 : walkPL0E.LT) (x) : walkPE.run [nextE.on p0, propE.on propF, noneE.on noneF, pairsCE.on p1] [(3, walkPL0E.on p2)] [] x = walkPE.go (bFc p0 p1 p2) x some := by kernel_rfl
theorem walkP_ok : walkPE.Ok walkPF := Ge.k (by kernel_rfl) (next_ok.k (prop_ok.k (none_ok.k (pairsC_ok.k g0)))) (bD (by kernel_rfl) (lhc (by kernel_rfl) aSb rfl lsn)) (aZq nextF pairsCF walkPL0F)
noncomputable abbrev fuseCE : Ge := ⟨273, Tryz.f273, [rc, rc, .s (.ptr 1 0)], aFg, [vb], aFg, bEu, Bool, fun x a d => ((a, ()), ((x.2.1.1, x.2.1.2.1, (), x.2.1.2.2.2.1, ()), (x.2.2.1.1, ()), d, ())), fun o d => ((o.1.1, o.1.2.1, (), (), ()), (), d, ()), fun o => o.1.2.1, fun o => o.2.2.1⟩
def aSc (p0 : loadE.T) (w r w2 r2 : Int) (c : Cfg) (got held : List Int) (k : Int) : F (Bool) :=
 (p0 w r 0 c got held).bind fun x0 =>
 .ret (x0 == k)
def fuseCF : fuseCE.T := aSc loadF
theorem aZr (p0 : loadE.T) (x) : fuseCE.run [loadE.on p0] [] [] x = fuseCE.go (aSc p0) x some := by kernel_rfl
theorem fuseC_ok : fuseCE.Ok fuseCF := Ge.k (by kernel_rfl) (load_ok.k g0) (aA (by kernel_rfl)) (aZr loadF)
noncomputable abbrev walkFL0E : He := ⟨3, Tryz.f252, 0, [2, 7, 8], [.clo 273 [.ptr 1 0], .s (.ptr 3 0), .s (.ptr 4 0)], [.box [.e (.st .cfg), .e (.sl .int), .own 2, .sln .int], .box [.e .int], .arr (.st .acc), .box [.ptr 0 0, .e .int, .e .int], .box [.ptr 0 0, .e .int, .e .int]], ((Fin.one 3 Tryz.f252.ntmps (.exit 0) [] [] aFg).or ((Fin.one 3 Tryz.f252.ntmps .ret [6] [vb] aFg).or (Fin.pan 3 188 (.agg []) bEu))), Cfg → List Int → List Int → Int → Int → Int → Int → Int → F (Unit ⊕ Unit), Unit ⊕ Unit, fun t x => t x.2.1.1 x.2.1.2.1 x.2.1.2.2.2.1 x.2.2.1.1 x.2.2.2.2.2.1.2.1 x.2.2.2.2.1.2.1 x.2.2.2.2.1.2.2.1 x.2.2.2.2.2.1.2.2.1, fun x a d K => aH a (fun b => K (Sum.inl (((), ((x.2.1.1, x.2.1.2.1, (), x.2.1.2.2.2.1, ()), (x.2.2.1.1, ()), d, ()))))) (fun b => K (Sum.inr (Sum.inl (((true, ()), ((x.2.1.1, x.2.1.2.1, (), x.2.1.2.2.2.1, ()), (x.2.2.1.1, ()), d, ())))))), fun x d => Sum.inr (Sum.inr ((((), ()), ((x.2.1.1, x.2.1.2.1, (), (), ()), (), d, ())))), fun x => x.2.1.2.1, fun x => x.2.2.2.1, fun _ a _ _ => by cases a <;> rfl⟩
def aMh (x : walkFL0E.X) (s : Int × Int × Int) (d : List Acc) : walkFL0E.X := ((((), ()), (), (), ()), ((x.2.1.1, x.2.1.2.1, (), x.2.1.2.2.2.1, ()), (x.2.2.1.1, ()), d, ((), s.1, s.2.1, ()), ((), x.2.2.2.2.2.1.2.1, s.2.2, ()), ()))
def uP (p0 : nextE.T) (p1 : fuseCE.T) (c : Cfg) (got held : List Int) (k v13 : Int) (st : Int × Int × Int) : F ((Int × Int × Int) ⊕ (Unit ⊕ Unit)) :=
 let v10 := st.1; let v11 := st.2.1; let v14 := st.2.2; 
 .ite (!v14 == 0) ((p1 v13 v14 v10 v11 c got held k).bind fun x1 =>
 .ite (x1) (.ret (Sum.inr (Sum.inr (()))))
 ((p0 v13 v14 2 c got held).bind fun x2 =>
 .ret (Sum.inl (v13, v14, x2))))
 (.ret (Sum.inr (Sum.inl (()))))
abbrev xQ (c : Cfg) (got held : List Int) (k v13 : Int) (st : Int × Int × Int) := (uP nextF fuseCF c got held k v13 st).tree
def walkFL0F : walkFL0E.LT := fun c got held k v13 s0 s1 s2 => .tr (T.loop (xQ c got held k v13) (got.length + 10) (s0, s1, s2))
theorem aMi (p0 : nextE.T) (p1 : fuseCE.T) (x) : walkFL0E.run [nextE.on p0, propE.on propF, noneE.on noneF, fuseCE.on p1] [] [] x = walkFL0E.go1 aMh (uP p0 p1 x.2.1.1 x.2.1.2.1 x.2.1.2.2.2.1 x.2.2.1.1 x.2.2.2.2.2.1.2.1 (x.2.2.2.2.1.2.1, x.2.2.2.2.1.2.2.1, x.2.2.2.2.2.1.2.2.1)) x := by kernel_rfl
theorem aSd : walkFL0E.Ok walkFL0F := He.k aMh (fun x => (x.2.2.2.2.1.2.1, x.2.2.2.2.1.2.2.1, x.2.2.2.2.2.1.2.2.1)) (fun x s => uP nextF fuseCF x.2.1.1 x.2.1.2.1 x.2.1.2.2.2.1 x.2.2.1.1 x.2.2.2.2.2.1.2.1 s) (fo f1 (fo f1 fp)) (next_ok.k (prop_ok.k (none_ok.k (fuseC_ok.k g0)))) (aA (by kernel_rfl)) (aMi nextF fuseCF) (fun _ => rfl) (fun _ => rfl) (fun _ _ _ => rfl) (fun _ _ _ => ⟨rfl, rfl⟩)
noncomputable abbrev walkFE : Ge := ⟨252, Tryz.f252, [pm, rc, .clo 273 [.ptr 1 0]], aFg, [vb], aFg, bEu, Bool, fun x a d => ((a, ()), ((x.2.1.1, x.2.1.2.1, (), x.2.1.2.2.2.1, ()), (x.2.2.1.1, ()), d, ())), fun o d => ((o.1.1, o.1.2.1, (), (), ()), (), d, ()), fun o => o.1.2.1, fun o => o.2.2.1⟩
def bFd (p0 : nextE.T) (p1 : fuseCE.T) (p2 : walkFL0E.LT) (w r : Int) (c : Cfg) (got held : List Int) (k : Int) : F (Bool) :=
 (p2 c got held k w 3 0 r).bind fun b1 => .sel b1 (fun x1 => .ret false)
 (fun y1 => .ret true)
def walkFF : walkFE.T := bFd nextF fuseCF walkFL0F
abbrev aVm (w r : Int) (c : Cfg) (got held : List Int) (k : Int) := (walkFF w r c got held k).tree
theorem aZs (p0 : nextE.T) (p1 : fuseCE.T) (p2 : walkFL0E.LT) (x) : walkFE.run [nextE.on p0, propE.on propF, noneE.on noneF, fuseCE.on p1] [(3, walkFL0E.on p2)] [] x = walkFE.go (bFd p0 p1 p2) x some := by kernel_rfl
theorem walkF_ok : walkFE.Ok walkFF := Ge.k (by kernel_rfl) (next_ok.k (prop_ok.k (none_ok.k (fuseC_ok.k g0)))) (bD (by kernel_rfl) (lhc (by kernel_rfl) aSd rfl lsn)) (aZs nextF fuseCF walkFL0F)
end Go.Ax.Cd
