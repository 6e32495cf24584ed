/-
  part
-/
import Derived.Test.YtdhmnlpfhfmpfaaGreatPk29
import Derived.Deep.RegionWith
namespace Go.Proofs.YtdhmnlpfhfmpfaaGreat
open Go.RowKit
set_option linter.unusedVariables false
set_option maxRecDepth 100000
set_option maxHeartbeats 4000000
theorem eN {w:World} {R:Nat} {h:HV} {tmps:Array Value} {x y:Value} (a:Ar w R 11 (hf h)) (q:tmps[2]?.getD undef= .pointer (some ⟨R,0,none⟩)) (p:tmps[3]?.getD undef=x) (h4:tmps[4]?.getD undef=y):
  (results Tryz.f30 tmps).run Tryz.prog w= .ok (.tuple #[hagg h,x,y]) w:=by
 have o:w.cell? ⟨R,0,none⟩ =some (.bool h.tx):=a.cell (i:=0) ω;have n:w.cell? ⟨R,1,none⟩ =some (.bool h.sm):=a.cell (i:=1) ω;have l:w.cell? ⟨R,2,none⟩ =some (.int .u32 h.tm):=a.cell (i:=2) ω;have k:w.cell? ⟨R,3,none⟩ =some (.int .u8 h.fl):=a.cell (i:=3) ω;have j:w.cell? ⟨R,4,none⟩ =some (.int .u8 h.sy):=a.cell (i:=4) ω;have g:w.cell? ⟨R,5,none⟩ =some (h.ex):=a.cell (i:=5) ω;have e:w.cell? ⟨R,6,none⟩ =some (.bool h.hE):=a.cell (i:=6) ω;have d:w.cell? ⟨R,7,none⟩ =some (.string h.nm):=a.cell (i:=7) ω;have c:w.cell? ⟨R,8,none⟩ =some (.string h.cm):=a.cell (i:=8) ω;have b:w.cell? ⟨R,9,none⟩ =some (.bool h.hN):=a.cell (i:=9) ω;have m:w.cell? ⟨R,10,none⟩ =some (.bool h.hC):=a.cell (i:=10) ω;simp [results,Tryz.results30,go_sem,q,p,h4,o,n,l,k,j,g,e,d,c,b,m,hagg]
structure RS (w0 w:World) (B R:Nat) (A:Option Addr) (n:Nat) (l:List Int):Prop where
 H:Ar w R 11 (hf hz)
 rd:bU .u8 w B A n l
 b:Below R w0 w
 eq:R=w0.heap.size
 BR:B<=R
section
variable {w0 w w':World} {B R n:Nat} {A:Option Addr} {l:List Int}
theorem RS.drewN (s:RS w0 w B R A n l) (q:Nat):RS w0 (w.drewN q) B R A n l:= ⟨s.H.drewN q,s.rd.drewN q,below_drewN s.b q,s.eq,s.BR⟩
theorem RS.below (s:RS w0 w B R A n l) (a:Below w.heap.size w w'):RS w0 w' B R A n l:=
 ⟨s.H.keeps a,s.rd.keep (λp hp=>a.cell (by have:=s.H.lt;have:=s.BR;omega)),iR s.b (a.mono (by have:=s.H.lt;omega)),s.eq,s.BR⟩
theorem RS.far (s:RS w0 w B R A n l) {p:Addr} (hp:R<p.block) (v:Value):RS w0 (w.setCell p v) B R A n l:=
 ⟨s.H.far ω v,s.rd.keep (λq a=>dS _ _ _ _ (λe=>by have c:=aL Addr.block e;have:=s.BR;omega)),s.b.setCell ω v,s.eq,s.BR⟩
theorem RS.grown (s:RS w0 w B R A n l) {row:Option Nat} (e:w.grownBy w' row) (c:∀k,row=some k->R<k):RS w0 w' B R A n l:=by
 have f:=s.H.lt;have hC:bj w w' (λk=>row=some k):=(bj.refl w _).grown e (λk a=> .inl a);have d:Below (R+1) w w':=hC.below (λk a=>by have:=c k a;omega) ω;exact⟨hC.ar s.H λh=>by have:=c _ h;omega,s.rd.keep λp hp=>d.cell (by have:=s.BR;omega),iR s.b (d.mono ω),s.eq,s.BR⟩
theorem RS.err (s:RS w0 w B R A n l):Ar (((((((((((w.setCell ⟨R,0,none⟩ (.bool false)).setCell ⟨R,1,none⟩ (.bool false)).setCell ⟨R,2,none⟩ (.int .u32 0)).setCell ⟨R,3,none⟩ (.int .u8 0)).setCell ⟨R,4,none⟩ (.int .u8 0)).setCell ⟨R,5,none⟩ (.slice none 0 0)).setCell ⟨R,6,none⟩ (.bool false)).setCell ⟨R,7,none⟩ (.string ByteArray.empty)).setCell ⟨R,8,none⟩ (.string ByteArray.empty)).setCell ⟨R,9,none⟩ (.bool false)).setCell ⟨R,10,none⟩ (.bool false)) R 11 (hf hz)/\Below w0.heap.size w0 (((((((((((w.setCell ⟨R,0,none⟩ (.bool false)).setCell ⟨R,1,none⟩ (.bool false)).setCell ⟨R,2,none⟩ (.int .u32 0)).setCell ⟨R,3,none⟩ (.int .u8 0)).setCell ⟨R,4,none⟩ (.int .u8 0)).setCell ⟨R,5,none⟩ (.slice none 0 0)).setCell ⟨R,6,none⟩ (.bool false)).setCell ⟨R,7,none⟩ (.string ByteArray.empty)).setCell ⟨R,8,none⟩ (.string ByteArray.empty)).setCell ⟨R,9,none⟩ (.bool false)).setCell ⟨R,10,none⟩ (.bool false)):=by
 refine⟨?_, ?_⟩
 · refine Ar.congr (((((((((((s.H.bC (i:=0) ω (.bool false)).bC (i:=1) ω (.bool false)).bC (i:=2) ω (.int .u32 0)).bC (i:=3) ω (.int .u8 0)).bC (i:=4) ω (.int .u8 0)).bC (i:=5) ω (.slice none 0 0)).bC (i:=6) ω (.bool false)).bC (i:=7) ω (.string ByteArray.empty)).bC (i:=8) ω (.string ByteArray.empty)).bC (i:=9) ω (.bool false)).bC (i:=10) ω (.bool false)) (λi hi=> ?_);rcases rL hi with rfl | rfl | rfl | rfl | rfl | rfl | rfl | rfl | rfl | rfl | rfl <;> rfl
 have h:=s.eq;have a:R<=R:=ag R;rw[<-h];exact(((((((((((s.b.setCell (p:= ⟨R,0,none⟩) a (.bool false)).setCell (p:= ⟨R,1,none⟩) a (.bool false)).setCell (p:= ⟨R,2,none⟩) a (.int .u32 0)).setCell (p:= ⟨R,3,none⟩) a (.int .u8 0)).setCell (p:= ⟨R,4,none⟩) a (.int .u8 0)).setCell (p:= ⟨R,5,none⟩) a (.slice none 0 0)).setCell (p:= ⟨R,6,none⟩) a (.bool false)).setCell (p:= ⟨R,7,none⟩) a (.string ByteArray.empty)).setCell (p:= ⟨R,8,none⟩) a (.string ByteArray.empty)).setCell (p:= ⟨R,9,none⟩) a (.bool false)).setCell (p:= ⟨R,10,none⟩) a (.bool false))
end
structure RT (w0 w:World) (B R:Nat) (A:Option Addr) (n:Nat) (l:List Int) (K:Nat) (h:HV) (X:Option Addr) (m cc:Nat) (xl:List Int):Prop where
 S:RS w0 w B R A n l
 H:Ar w K 11 (hf h)
 lt:R<K
 own:aW .u8 w (K+1) 5 X m cc xl
section
variable {w0 w w':World} {B R n K m cc:Nat} {A X:Option Addr} {l xl:List Int} {h h':HV}
theorem RT.drewN (s:RT w0 w B R A n l K h X m cc xl) (q:Nat):RT w0 (w.drewN q) B R A n l K h X m cc xl:= ⟨s.S.drewN q,s.H.drewN q,s.lt,s.own.drewN q⟩
theorem RT.bC (s:RT w0 w B R A n l K h X m cc xl) {i:Nat} (hi:i<11) (v:Value) (a:∀j,j<11->upd (hf h) i v j=hf h' j):RT w0 (w.setCell ⟨K,i,none⟩ v) B R A n l K h' X m cc xl:=
 ⟨s.S.far (p:= ⟨K,i,none⟩) s.lt v,s.H.yL hi v a,s.lt,s.own.far (p:= ⟨K,i,none⟩) (λh=>by have b:K+1<=K:=(s.own.2.lt h).1;omega) v⟩
theorem RT.lit (s:RT w0 w B R A n l K h X m cc xl) {Z:Nat} (a:Z=w.heap.size):RT w0 (w.alloc (.cells #[] 5)) B R A n l K h (some ⟨Z,0,none⟩) 0 0 []:=
 ⟨s.S.below ((aw _ _).alloc (ag _) _),s.H.alloc _,s.lt,aW.lit a [] _ (by have:=s.H.lt;omega) (aF _)⟩
theorem RT.grown {g:Option Addr} {d b:Nat} {a:List Int} (s:RT w0 w B R A n l K h X m cc xl) (f:w.grownBy w' (ai X)) (i:aW .u8 w' (K+1) 5 g d b a):RT w0 w' B R A n l K h g d b a:=by
 have e:∀k,ai X=some k->K+1<=k:=λk c=>(s.own.2.lt c).1;exact⟨s.S.grown f λk c=>by have:=e k c;have:=s.lt;omega,s.H.grown f λh=>by have:=e _ h.symm;omega,s.lt,i⟩
end
theorem RT.fin {w0 w:World} {B R n K m cc:Nat} {A X:Option Addr} {l xl:List Int} {h:HV} (s:RT w0 w B R A n l K h X m cc xl):Ar (((((((((((w.setCell ⟨R,0,none⟩ (.bool h.tx)).setCell ⟨R,1,none⟩ (.bool h.sm)).setCell ⟨R,2,none⟩ (.int .u32 h.tm)).setCell ⟨R,3,none⟩ (.int .u8 h.fl)).setCell ⟨R,4,none⟩ (.int .u8 h.sy)).setCell ⟨R,5,none⟩ h.ex).setCell ⟨R,6,none⟩ (.bool h.hE)).setCell ⟨R,7,none⟩ (.string h.nm)).setCell ⟨R,8,none⟩ (.string h.cm)).setCell ⟨R,9,none⟩ (.bool h.hN)).setCell ⟨R,10,none⟩ (.bool h.hC)) R 11 (hf h)/\Below w0.heap.size w0 (((((((((((w.setCell ⟨R,0,none⟩ (.bool h.tx)).setCell ⟨R,1,none⟩ (.bool h.sm)).setCell ⟨R,2,none⟩ (.int .u32 h.tm)).setCell ⟨R,3,none⟩ (.int .u8 h.fl)).setCell ⟨R,4,none⟩ (.int .u8 h.sy)).setCell ⟨R,5,none⟩ h.ex).setCell ⟨R,6,none⟩ (.bool h.hE)).setCell ⟨R,7,none⟩ (.string h.nm)).setCell ⟨R,8,none⟩ (.string h.cm)).setCell ⟨R,9,none⟩ (.bool h.hN)).setCell ⟨R,10,none⟩ (.bool h.hC))/\bU .u8 (((((((((((w.setCell ⟨R,0,none⟩ (.bool h.tx)).setCell ⟨R,1,none⟩ (.bool h.sm)).setCell ⟨R,2,none⟩ (.int .u32 h.tm)).setCell ⟨R,3,none⟩ (.int .u8 h.fl)).setCell ⟨R,4,none⟩ (.int .u8 h.sy)).setCell ⟨R,5,none⟩ h.ex).setCell ⟨R,6,none⟩ (.bool h.hE)).setCell ⟨R,7,none⟩ (.string h.nm)).setCell ⟨R,8,none⟩ (.string h.cm)).setCell ⟨R,9,none⟩ (.bool h.hN)).setCell ⟨R,10,none⟩ (.bool h.hC)) ((((((((((((w.setCell ⟨R,0,none⟩ (.bool h.tx)).setCell ⟨R,1,none⟩ (.bool h.sm)).setCell ⟨R,2,none⟩ (.int .u32 h.tm)).setCell ⟨R,3,none⟩ (.int .u8 h.fl)).setCell ⟨R,4,none⟩ (.int .u8 h.sy)).setCell ⟨R,5,none⟩ h.ex).setCell ⟨R,6,none⟩ (.bool h.hE)).setCell ⟨R,7,none⟩ (.string h.nm)).setCell ⟨R,8,none⟩ (.string h.cm)).setCell ⟨R,9,none⟩ (.bool h.hN)).setCell ⟨R,10,none⟩ (.bool h.hC))).heap.size X m xl:=by
 have a:∀k,ai X=some k->k≠R:=λk d h=>by have f:K+1<=k:=(s.own.2.lt d).1;have:=s.lt;omega
 refine⟨?_, ?_, ?_⟩
 · refine Ar.congr (((((((((((s.S.H.bC (i:=0) ω (.bool h.tx)).bC (i:=1) ω (.bool h.sm)).bC (i:=2) ω (.int .u32 h.tm)).bC (i:=3) ω (.int .u8 h.fl)).bC (i:=4) ω (.int .u8 h.sy)).bC (i:=5) ω h.ex).bC (i:=6) ω (.bool h.hE)).bC (i:=7) ω (.string h.nm)).bC (i:=8) ω (.string h.cm)).bC (i:=9) ω (.bool h.hN)).bC (i:=10) ω (.bool h.hC)) (λi hi=> ?_);rcases rL hi with rfl | rfl | rfl | rfl | rfl | rfl | rfl | rfl | rfl | rfl | rfl <;> rfl
 · have e:=s.S.eq;have c:R<=R:=ag R;rw[<-e];exact(((((((((((s.S.b.setCell (p:= ⟨R,0,none⟩) c (.bool h.tx)).setCell (p:= ⟨R,1,none⟩) c (.bool h.sm)).setCell (p:= ⟨R,2,none⟩) c (.int .u32 h.tm)).setCell (p:= ⟨R,3,none⟩) c (.int .u8 h.fl)).setCell (p:= ⟨R,4,none⟩) c (.int .u8 h.sy)).setCell (p:= ⟨R,5,none⟩) c h.ex).setCell (p:= ⟨R,6,none⟩) c (.bool h.hE)).setCell (p:= ⟨R,7,none⟩) c (.string h.nm)).setCell (p:= ⟨R,8,none⟩) c (.string h.cm)).setCell (p:= ⟨R,9,none⟩) c (.bool h.hN)).setCell (p:= ⟨R,10,none⟩) c (.bool h.hC))
 exact((((((((((((s.own.far (p:= ⟨R,0,none⟩) (λh=>a _ h rfl) (.bool h.tx)).far (p:= ⟨R,1,none⟩) (λh=>a _ h rfl) (.bool h.sm)).far (p:= ⟨R,2,none⟩) (λh=>a _ h rfl) (.int .u32 h.tm)).far (p:= ⟨R,3,none⟩) (λh=>a _ h rfl) (.int .u8 h.fl)).far (p:= ⟨R,4,none⟩) (λh=>a _ h rfl) (.int .u8 h.sy)).far (p:= ⟨R,5,none⟩) (λh=>a _ h rfl) h.ex).far (p:= ⟨R,6,none⟩) (λh=>a _ h rfl) (.bool h.hE)).far (p:= ⟨R,7,none⟩) (λh=>a _ h rfl) (.string h.nm)).far (p:= ⟨R,8,none⟩) (λh=>a _ h rfl) (.string h.cm)).far (p:= ⟨R,9,none⟩) (λh=>a _ h rfl) (.bool h.hN)).far (p:= ⟨R,10,none⟩) (λh=>a _ h rfl) (.bool h.hC))).rd
theorem tdv {F:Int} (h:0<=F/\F<256):(F.tmod 2==1)=bit F 1/\((IntKind.i64.wrap (F.tdiv 2)).tmod 2==1)=bit F 2/\((IntKind.i64.wrap (F.tdiv 4)).tmod 2==1)=bit F 4/\((IntKind.i64.wrap (F.tdiv 8)).tmod 2==1)=bit F 8/\((IntKind.i64.wrap (F.tdiv 16)).tmod 2==1)=bit F 16:=by
 have a:∀k:Int,0<k->((IntKind.i64.wrap (F.tdiv k)).tmod 2==1)=bit F k:=λk d=>by
  have c:F.tdiv k=F/k:=Int.tdiv_eq_ediv_of_nonneg h.1;have b:0<=F/k/\F/k<=F:= ⟨Int.ediv_nonneg h.1 ω,Int.ediv_le_self _ h.1⟩;rw[c,aK _ ω,cK b.1];unfold bit;rw[Bool.eq_iff_iff];simp
 refine⟨?_,a 2 ω,a 4 ω,a 8 ω,a 16 ω⟩;have:=a 1 ω;rw[Int.tdiv_one,aK _ ω]at this;exact this
theorem add_pos (a:Addr) {k:Nat} (h:k≠0):a.add k= ⟨a.block,a.off+k,none⟩ :=by unfold Addr.add;rw[aa h]
theorem jP {w w':World} {l:List Int} {e:Int} (c:Below w.heap.size w w') (a:jM l=e) (d:e≠0):wL w l (.returned (.tuple #[hagg hz, .int .i64 0, .int .i64 e])) w':=
 ⟨none,0,0,[],ag _,aF _, ⟨rfl,Rd.dK⟩,λk b=>by simp [ai]at b,c, .inr ⟨by rw[a];exact d,by rw[a]⟩⟩
theorem Jb (w:World) (B n c:Nat) (A:Option Addr) (l:List Int) (hr:bU .u8 w B A n l) (hB:B<=w.heap.size) (hn:n<=1000000) (hc:n<=c) (hb:∀x∈l,0<=x/\x<256):
  Calls Tryz.prog 30 #[.slice A n c] w (wL w l):=by
 have L:=η hr.1;go_enter Tryz.func30,Tryz.ntmps30
 go_wp2_with fail
 have S0:RS w ((w.alloc (Obj.cells #[Value.bool false,Value.bool false,Value.int IntKind.u32 0,Value.int IntKind.u8 0,Value.int IntKind.u8 0,Value.slice none 0 0,Value.bool false,Value.string { data:= #[] },Value.string { data:= #[] },Value.bool false,Value.bool false] 31)).alloc (Obj.cells #[Value.int IntKind.u8 31,Value.int IntKind.u8 139,Value.int IntKind.u8 8] 5)) B w.heap.size A n l:=
  ⟨(Ar.VB rfl _ _ rfl (λi hi=>by
    rcases rL hi with rfl | rfl | rfl | rfl | rfl | rfl | rfl | rfl | rfl | rfl | rfl;all_goals rfl)).alloc _,(hr.alloc hB _).alloc ξ _,((aw _ _).alloc (ag _) _).alloc σ _,rfl,hB⟩
 have TU:bU .u8 ((w.alloc (Obj.cells #[Value.bool false,Value.bool false,Value.int IntKind.u32 0,Value.int IntKind.u8 0,Value.int IntKind.u8 0,Value.slice none 0 0,Value.bool false,Value.string { data:= #[] },Value.string { data:= #[] },Value.bool false,Value.bool false] 31)).alloc (Obj.cells #[Value.int IntKind.u8 31,Value.int IntKind.u8 139,Value.int IntKind.u8 8] 5)) (w.heap.size+1+1) (some ⟨w.heap.size+1,0,none⟩) 3 Bb:=bU.Vu .u8 (w:=w.alloc (Obj.cells #[Value.bool false,Value.bool false,Value.int IntKind.u32 0,Value.int IntKind.u8 0,Value.int IntKind.u8 0,Value.slice none 0 0,Value.bool false,Value.string { data:= #[] },Value.string { data:= #[] },Value.bool false,Value.bool false] 31)) σ Bb 5;revert S0 TU;generalize ((w.alloc (Obj.cells #[Value.bool false,Value.bool false,Value.int IntKind.u32 0,Value.int IntKind.u8 0,Value.int IntKind.u8 0,Value.slice none 0 0,Value.bool false,Value.string { data:= #[] },Value.string { data:= #[] },Value.bool false,Value.bool false] 31)).alloc (Obj.cells #[Value.int IntKind.u8 31,Value.int IntKind.u8 139,Value.int IntKind.u8 8] 5))=w1;intro S0 TU;obtain⟨M,hM⟩ :=ν (w.heap.size+1);have HM:Hid (w.heap.size<M):=by show _<_;omega
 rw[hM]at TU⊢;clear hM;obtain⟨R,hR⟩ :=ν (w.heap.size);rw[hR]at S0 HM⊢;clear hR
 have a8h:Hid (M<w1.heap.size):=by
  obtain⟨f,e,hb,hc⟩ :=TU.2 ω;cases e;have h0:=hc 0 ω;show _<_;rw[nY]at h0;rcases aZ M w1.heap.size with h' | h'
  · exact h'
  simp [World.cell?,Array.getElem?_eq_none h']at h0
 have cj:Hid (∀k,k<3->w1.cell? ⟨M,k,none⟩ =some (.int .u8 (ix Bb k))):=λk hk=>TU.head hk;clear TU
 go_loopw [6] (λi wr=>∃(k q:Nat),k<=3/\i= .int .i64 k/\wr=w1.drewN q/\Hid (pre l k)) (λi _=>3-(intOf i).toNat)
 case atStart=>exact⟨0,0,ω,rfl,rfl,λi hi=>ω⟩
 obtain⟨k,q,hk,rfl,rfl,HP⟩ :=hrel;by_cases bv:k<3
 · by_cases yG:k<n
   rotate_left
   · have ac:l.length<=k:=by rw[<-L.out];omega
     have qh:(0:Int)<=k/\(n:Int)<=k:=ω;have S:=S0.drewN q;clear S0;revert S;generalize w1.drewN q=wc;intro S;have d:Hid (jM l=5):=by show _=_;exact Oa bv HP.out ac
     have r0:wc.cell? ⟨R,0,none⟩ =some (.bool false):=S.H.cell (i:=0) ω;have f0:=S.H.frozen' (i:=0) ω;have O:wc.cell? ⟨R,1,none⟩ =some (.bool false):=S.H.cell (i:=1) ω;have f1:=S.H.frozen' (i:=1) ω;have r2:wc.cell? ⟨R,2,none⟩ =some (.int .u32 0):=S.H.cell (i:=2) ω;have f2:=S.H.frozen' (i:=2) ω;have r3:wc.cell? ⟨R,3,none⟩ =some (.int .u8 0):=S.H.cell (i:=3) ω;have f3:=S.H.frozen' (i:=3) ω;have r4:wc.cell? ⟨R,4,none⟩ =some (.int .u8 0):=S.H.cell (i:=4) ω;have f4:=S.H.frozen' (i:=4) ω;have D:wc.cell? ⟨R,5,none⟩ =some (.slice none 0 0):=S.H.cell (i:=5) ω;have Q:=S.H.frozen' (i:=5) ω;have V:wc.cell? ⟨R,6,none⟩ =some (.bool false):=S.H.cell (i:=6) ω;have f6:=S.H.frozen' (i:=6) ω;have r7:wc.cell? ⟨R,7,none⟩ =some (.string ByteArray.empty):=S.H.cell (i:=7) ω;have f7:=S.H.frozen' (i:=7) ω;have r8:wc.cell? ⟨R,8,none⟩ =some (.string ByteArray.empty):=S.H.cell (i:=8) ω;have f8:=S.H.frozen' (i:=8) ω;have U:wc.cell? ⟨R,9,none⟩ =some (.bool false):=S.H.cell (i:=9) ω;have f9:=S.H.frozen' (i:=9) ω;have Y:wc.cell? ⟨R,10,none⟩ =some (.bool false):=S.H.cell (i:=10) ω;have C:=S.H.frozen' (i:=10) ω
     go_wp2_with ((with_reducible (show bodyPost _ _ _ _ _ _));exact bh (eN S.err.1 rfl rfl rfl) rfl (jP S.err.2 d.out δ))
   have mk:=cj.out k bv;obtain⟨f,rfl,_,hl⟩ :=S0.rd.at_ yG;have qh:(0:Int)<=k/\(k:Int)<3/\(k:Int)<n/\(n:Int)<=1000000:=ω;obtain⟨x,hx⟩ :=ν (ix l k);obtain⟨y,hy⟩ :=ν (ix Bb k);rw[hx]at hl;rw[hy]at mk;by_cases ao:x=y
   · have Ev:Hid (pre l (k+1)):=λi hi=>by
      rcases aZ i k with o | o
      · exact HP.out i o
      obtain rfl:i=k:=ω;exact⟨by rw[<-L.out];exact yG,by rw[hx,hy];exact ao⟩
     clear hx hy;subst ao
     go_wp2_with fail;go_quiet (fail);go_wp2;go_roundw
     case rel=>exact⟨k+1,_,ω,by go_num,rfl,Ev⟩
     case measure=>simp [intOf];omega
   have HX:Hid (ix l k≠ix Bb k):=by show _≠_;rw[hx,hy];exact ao
   clear hx hy;have cL:(x != y)=true:=by simpa using ao
   have ac:k<l.length:=by rw[<-L.out];exact yG
   go_wp2_with fail;go_quiet (fail);have S:=((S0.drewN q).drewN nq);revert S;generalize World.drewN _ _=wc;intro S;have d:Hid (jM l=2):=by show _=_;exact J4 bv HP.out ac HX.out
   have r0:wc.cell? ⟨R,0,none⟩ =some (.bool false):=S.H.cell (i:=0) ω;have f0:=S.H.frozen' (i:=0) ω;have O:wc.cell? ⟨R,1,none⟩ =some (.bool false):=S.H.cell (i:=1) ω;have f1:=S.H.frozen' (i:=1) ω;have r2:wc.cell? ⟨R,2,none⟩ =some (.int .u32 0):=S.H.cell (i:=2) ω;have f2:=S.H.frozen' (i:=2) ω;have r3:wc.cell? ⟨R,3,none⟩ =some (.int .u8 0):=S.H.cell (i:=3) ω;have f3:=S.H.frozen' (i:=3) ω;have r4:wc.cell? ⟨R,4,none⟩ =some (.int .u8 0):=S.H.cell (i:=4) ω;have f4:=S.H.frozen' (i:=4) ω;have D:wc.cell? ⟨R,5,none⟩ =some (.slice none 0 0):=S.H.cell (i:=5) ω;have Q:=S.H.frozen' (i:=5) ω;have V:wc.cell? ⟨R,6,none⟩ =some (.bool false):=S.H.cell (i:=6) ω;have f6:=S.H.frozen' (i:=6) ω;have r7:wc.cell? ⟨R,7,none⟩ =some (.string ByteArray.empty):=S.H.cell (i:=7) ω;have f7:=S.H.frozen' (i:=7) ω;have r8:wc.cell? ⟨R,8,none⟩ =some (.string ByteArray.empty):=S.H.cell (i:=8) ω;have f8:=S.H.frozen' (i:=8) ω;have U:wc.cell? ⟨R,9,none⟩ =some (.bool false):=S.H.cell (i:=9) ω;have f9:=S.H.frozen' (i:=9) ω;have Y:wc.cell? ⟨R,10,none⟩ =some (.bool false):=S.H.cell (i:=10) ω;have C:=S.H.frozen' (i:=10) ω
   go_wp2_with ((with_reducible (show bodyPost _ _ _ _ _ _));exact bh (eN S.err.1 rfl rfl rfl) rfl (jP S.err.2 d.out δ))
 obtain rfl:3=k:=ω;have S:=S0.drewN q;clear S0;revert S;generalize w1.drewN q=wc;intro S;clear cj a8h;by_cases db:(n:Int)<4
 · have h4:l.length<4:=by rw[<-L.out];omega
   have d:Hid (jM l=5):=by show _=_;exact b0z HP.out h4
   have r0:wc.cell? ⟨R,0,none⟩ =some (.bool false):=S.H.cell (i:=0) ω;have f0:=S.H.frozen' (i:=0) ω;have O:wc.cell? ⟨R,1,none⟩ =some (.bool false):=S.H.cell (i:=1) ω;have f1:=S.H.frozen' (i:=1) ω;have r2:wc.cell? ⟨R,2,none⟩ =some (.int .u32 0):=S.H.cell (i:=2) ω;have f2:=S.H.frozen' (i:=2) ω;have r3:wc.cell? ⟨R,3,none⟩ =some (.int .u8 0):=S.H.cell (i:=3) ω;have f3:=S.H.frozen' (i:=3) ω;have r4:wc.cell? ⟨R,4,none⟩ =some (.int .u8 0):=S.H.cell (i:=4) ω;have f4:=S.H.frozen' (i:=4) ω;have D:wc.cell? ⟨R,5,none⟩ =some (.slice none 0 0):=S.H.cell (i:=5) ω;have Q:=S.H.frozen' (i:=5) ω;have V:wc.cell? ⟨R,6,none⟩ =some (.bool false):=S.H.cell (i:=6) ω;have f6:=S.H.frozen' (i:=6) ω;have r7:wc.cell? ⟨R,7,none⟩ =some (.string ByteArray.empty):=S.H.cell (i:=7) ω;have f7:=S.H.frozen' (i:=7) ω;have r8:wc.cell? ⟨R,8,none⟩ =some (.string ByteArray.empty):=S.H.cell (i:=8) ω;have f8:=S.H.frozen' (i:=8) ω;have U:wc.cell? ⟨R,9,none⟩ =some (.bool false):=S.H.cell (i:=9) ω;have f9:=S.H.frozen' (i:=9) ω;have Y:wc.cell? ⟨R,10,none⟩ =some (.bool false):=S.H.cell (i:=10) ω;have C:=S.H.frozen' (i:=10) ω
   go_wp2_with ((with_reducible (show bodyPost _ _ _ _ _ _));exact bh (eN S.err.1 rfl rfl rfl) rfl (jP S.err.2 d.out δ))
 have h4:4<=l.length:=by rw[<-L.out];omega
 obtain⟨f,rfl,_,hl⟩ :=S.rd.at_ (i:=3) ω;obtain⟨F,hF⟩ :=ν (ix l 3);have L9:=gp hb 3;rw[hF]at hl L9;rw[add_pos f ω]at hl;have HF:=η hF;clear hF;by_cases PN:31<F
 · have ct:31<ix l 3:=by rw[HF.out];exact PN
   have d:Hid (jM l=2):=by show _=_;exact Ys HP.out h4 ct
   have r0:wc.cell? ⟨R,0,none⟩ =some (.bool false):=S.H.cell (i:=0) ω;have f0:=S.H.frozen' (i:=0) ω;have O:wc.cell? ⟨R,1,none⟩ =some (.bool false):=S.H.cell (i:=1) ω;have f1:=S.H.frozen' (i:=1) ω;have r2:wc.cell? ⟨R,2,none⟩ =some (.int .u32 0):=S.H.cell (i:=2) ω;have f2:=S.H.frozen' (i:=2) ω;have r3:wc.cell? ⟨R,3,none⟩ =some (.int .u8 0):=S.H.cell (i:=3) ω;have f3:=S.H.frozen' (i:=3) ω;have r4:wc.cell? ⟨R,4,none⟩ =some (.int .u8 0):=S.H.cell (i:=4) ω;have f4:=S.H.frozen' (i:=4) ω;have D:wc.cell? ⟨R,5,none⟩ =some (.slice none 0 0):=S.H.cell (i:=5) ω;have Q:=S.H.frozen' (i:=5) ω;have V:wc.cell? ⟨R,6,none⟩ =some (.bool false):=S.H.cell (i:=6) ω;have f6:=S.H.frozen' (i:=6) ω;have r7:wc.cell? ⟨R,7,none⟩ =some (.string ByteArray.empty):=S.H.cell (i:=7) ω;have f7:=S.H.frozen' (i:=7) ω;have r8:wc.cell? ⟨R,8,none⟩ =some (.string ByteArray.empty):=S.H.cell (i:=8) ω;have f8:=S.H.frozen' (i:=8) ω;have U:wc.cell? ⟨R,9,none⟩ =some (.bool false):=S.H.cell (i:=9) ω;have f9:=S.H.frozen' (i:=9) ω;have Y:wc.cell? ⟨R,10,none⟩ =some (.bool false):=S.H.cell (i:=10) ω;have C:=S.H.frozen' (i:=10) ω
   go_wp2_with ((with_reducible (show bodyPost _ _ _ _ _ _));exact bh (eN S.err.1 rfl rfl rfl) rfl (jP S.err.2 d.out δ))
 by_cases dd:(n:Int)<10
 · have cA:l.length<10:=by rw[<-L.out];omega
   have d:Hid (jM l=5):=by show _=_;exact a7D HP.out h4 (by rw[HF.out];exact PN) cA
   have r0:wc.cell? ⟨R,0,none⟩ =some (.bool false):=S.H.cell (i:=0) ω;have f0:=S.H.frozen' (i:=0) ω;have O:wc.cell? ⟨R,1,none⟩ =some (.bool false):=S.H.cell (i:=1) ω;have f1:=S.H.frozen' (i:=1) ω;have r2:wc.cell? ⟨R,2,none⟩ =some (.int .u32 0):=S.H.cell (i:=2) ω;have f2:=S.H.frozen' (i:=2) ω;have r3:wc.cell? ⟨R,3,none⟩ =some (.int .u8 0):=S.H.cell (i:=3) ω;have f3:=S.H.frozen' (i:=3) ω;have r4:wc.cell? ⟨R,4,none⟩ =some (.int .u8 0):=S.H.cell (i:=4) ω;have f4:=S.H.frozen' (i:=4) ω;have D:wc.cell? ⟨R,5,none⟩ =some (.slice none 0 0):=S.H.cell (i:=5) ω;have Q:=S.H.frozen' (i:=5) ω;have V:wc.cell? ⟨R,6,none⟩ =some (.bool false):=S.H.cell (i:=6) ω;have f6:=S.H.frozen' (i:=6) ω;have r7:wc.cell? ⟨R,7,none⟩ =some (.string ByteArray.empty):=S.H.cell (i:=7) ω;have f7:=S.H.frozen' (i:=7) ω;have r8:wc.cell? ⟨R,8,none⟩ =some (.string ByteArray.empty):=S.H.cell (i:=8) ω;have f8:=S.H.frozen' (i:=8) ω;have U:wc.cell? ⟨R,9,none⟩ =some (.bool false):=S.H.cell (i:=9) ω;have f9:=S.H.frozen' (i:=9) ω;have Y:wc.cell? ⟨R,10,none⟩ =some (.bool false):=S.H.cell (i:=10) ω;have C:=S.H.frozen' (i:=10) ω
   go_wp2_with ((with_reducible (show bodyPost _ _ _ _ _ _));exact bh (eN S.err.1 rfl rfl rfl) rfl (jP S.err.2 d.out δ))
 have HT:Hid (ten l):=WQ HP.out (by rw[HF.out];exact PN) (by rw[<-L.out];omega);obtain⟨i0,hi,u,g,t⟩ :=aJ gC;obtain⟨A4,Cb⟩ :=ν (dx (some f) c 4);obtain⟨d4,Am⟩ :=ν (c-4)
 have oP:∀W,(Instr.slice 22 (.slice (some f) n c) (some (.int .i64 4)) (some (.int .i64 8)) none).run Tryz.prog W= .ok (.slice A4 4 d4) W:=λW=>by
  have:=fR (P:=Tryz.prog) 22 5 Tryz.underlying22 hi g (some f) n c (a:=4) (b:=8) ω ω W;rw[Cb,Am]at this;exact this
 have cd:∀W,bU .u8 W B (some f) n l->bU .u8 W B A4 4 ((l.drop 4).take 4):=λW h=>Cb▸Bp h ω hc;have ch:=η cd;clear cd Cb Am hi u g t;obtain⟨MT,bx,de,ab⟩ :=S.rd.at_ (i:=8) ω;cases bx;obtain⟨MT,bx,_,Zv⟩ :=S.rd.at_ (i:=9) ω;cases bx;rw[add_pos f ω]at ab Zv;obtain⟨x8,Du⟩ :=ν (ix l 8);obtain⟨x9,ap⟩ :=ν (ix l 9);rw[Du]at ab;rw[ap]at Zv;have cz:=gp hb 8;have cx:=gp hb 9;rw[Du]at cz;rw[ap]at cx;obtain⟨tm,bp⟩ :=ν (mM ((l.drop 4).take 4));have bs:=B5 (lU (oJ hb 4) 4);rw[show((l.drop 4).take 4).length=4 by rw[aA,av,<-L.out];omega,bp]at bs;have bs:0<=tm/\tm<4294967296:=bs;have cD:=η Du;have cB:=η ap;have cg:=η bp;clear Du ap bp;have U4:f.block<wc.heap.size:=by have:=S.H.lt;have:=S.BR;omega
 have ny:∀W,bU .u8 W B (some f) n l->Calls Tryz.prog 32 #[.slice A4 4 d4] W λe w'=>e= .returned (.int .i64 tm)/\w'=W:=λW h=>by
  have:=pV W B 4 d4 A4 _ (ch.out W h) ω (lU (oJ hb 4) 4);rw[cg.out]at this;exact this
 have GG:=η ny;clear ny;have Xz:=S.rd;have dy:(8:Int)<n:=ω;have du:(9:Int)<n:=ω;have dz:(4:Int)<n:=ω;have xT:B<=wc.heap.size:=by have:=S.H.lt;have:=S.BR;omega
 have NN:=η (tdv L9);go_upto_region 16 with fail
 go_cut [8] (λs wx=>∃K,s= .pointer (some ⟨K,0,none⟩)/\RT w wx B R (some f) n l K { Nr F with tm:=tm,fl:=x8,sy:=x9 } none 0 0 [])
 case first=>
  go_region_held3 (λw'=>w'.cell? ⟨f.block,f.off+8,none⟩ =some (.int .u8 x8)/\w'.cell? ⟨f.block,f.off+9,none⟩ =some (.int .u8 x9)/\bU .u8 w' B (some f) n l)
   (first | exact⟨ab,Zv,Xz⟩ | exact⟨(dH wc.drew _ ⟨f.block,f.off+8,none⟩ U4).trans ab,(dH wc.drew _ ⟨f.block,f.off+9,none⟩ U4).trans Zv,bU.alloc (w:=wc.drew) Xz xT _⟩ | exact⟨(dH wc _ ⟨f.block,f.off+8,none⟩ U4).trans ab,(dH wc _ ⟨f.block,f.off+9,none⟩ U4).trans Zv,bU.alloc (w:=wc) Xz xT _⟩)
   (first | (go_at_call 32;(refine(GG.out _ (by first | exact Xz | exact bU.alloc (w:=wc.drew) Xz xT _)).mono ?_);rintro e w7 ⟨rfl,rfl⟩))
  all_goals
   go_wp2;go_meet;refine⟨_,rfl,(S.below ((aw _ _).alloc (ag _) _)).drewN 1,(Ar.VB rfl _ _ rfl (λi hi=> ?_)).drew,S.H.lt,aW.dK⟩;rcases rL hi with rfl | rfl | rfl | rfl | rfl | rfl | rfl | rfl | rfl | rfl | rfl
   · exact aL (λb=>some (Value.bool b)) NN.out.1
   · exact aL (λb=>some (Value.bool b)) NN.out.2.1
   · exact aL (λb=>some (Value.int .u32 b)) (show IntKind.u32.wrap tm=tm by rw[fw];omega)
   · rfl
   · rfl
   · rfl
   · exact aL (λb=>some (Value.bool b)) NN.out.2.2.1
   · rfl
   · rfl
   · exact aL (λb=>some (Value.bool b)) NN.out.2.2.2.1
   exact aL (λb=>some (Value.bool b)) NN.out.2.2.2.2
 case rest=>
 clear S hl ab Zv Xz U4 xT;obtain⟨K,rfl,T⟩ :=hcut;clear ch GG oP HM;obtain⟨o,be⟩ :∃o:HV,o={ Nr F with tm:=tm,fl:=x8,sy:=x9 }:= ⟨_,rfl⟩;replace T:RT w wc B R (some f) n l K { Nr F with tm:=tm,fl:=x8,sy:=x9 } none 0 0 []:=T;rw[<-be]at T;have HE:Hid (o.hE=bit F 4/\o.hN=bit F 8/\o.hC=bit F 16/\o.sm=bit F 2):=by show _;rw[be];exact⟨rfl,rfl,rfl,rfl⟩
 have bo:=η be;clear be NN;have Rm:Hid (fB l=F):=by show _=_;rw[HT.out.2.2.1,HF.out]
 have V:wc.cell? ⟨K,6,none⟩ =some (.bool (bit F 4)):=by rw[<-HE.out.1];exact T.H.cell (i:=6) ω
 go_upto_if 83 with fail
 go_cut [9] (λs wx=>∃X m cc,s= .int .i64 (b9 l)/\Hid (q9 l=0/\b9 l<=n)/\RT w wx B R (some f) n l K { o with ex:= .slice X m cc } X m cc (yy l))
 case first=>
  have S:=T.S;cases z:bit F 4 with
  | false=>
    have d:=η (Tk HT.out (by rw[Rm.out];exact z));go_wp2;go_meet;refine⟨none,0,0,by rw[d.out.2.1];rfl, ⟨d.out.1,by rw[d.out.2.1];omega⟩, ?_⟩;rw[d.out.2.2];have h9: { o with ex:= .slice none 0 0 }=o:=by rw[bo.out];rfl
    rw[h9];exact T
  | true=>
    have C7:Hid (bit (fB l) 4=true):=by show _=_;rw[Rm.out];exact z
    by_cases da:(n:Int)<12
    · have TK:l.length<12:=by rw[<-L.out];omega
      have d:Hid (jM l=5):=by show _=_;exact Yo HT.out C7.out TK
      have r0:wc.cell? ⟨R,0,none⟩ =some (.bool false):=S.H.cell (i:=0) ω;have f0:=S.H.frozen' (i:=0) ω;have O:wc.cell? ⟨R,1,none⟩ =some (.bool false):=S.H.cell (i:=1) ω;have f1:=S.H.frozen' (i:=1) ω;have r2:wc.cell? ⟨R,2,none⟩ =some (.int .u32 0):=S.H.cell (i:=2) ω;have f2:=S.H.frozen' (i:=2) ω;have r3:wc.cell? ⟨R,3,none⟩ =some (.int .u8 0):=S.H.cell (i:=3) ω;have f3:=S.H.frozen' (i:=3) ω;have r4:wc.cell? ⟨R,4,none⟩ =some (.int .u8 0):=S.H.cell (i:=4) ω;have f4:=S.H.frozen' (i:=4) ω;have D:wc.cell? ⟨R,5,none⟩ =some (.slice none 0 0):=S.H.cell (i:=5) ω;have Q:=S.H.frozen' (i:=5) ω;have V:wc.cell? ⟨R,6,none⟩ =some (.bool false):=S.H.cell (i:=6) ω;have f6:=S.H.frozen' (i:=6) ω;have r7:wc.cell? ⟨R,7,none⟩ =some (.string ByteArray.empty):=S.H.cell (i:=7) ω;have f7:=S.H.frozen' (i:=7) ω;have r8:wc.cell? ⟨R,8,none⟩ =some (.string ByteArray.empty):=S.H.cell (i:=8) ω;have f8:=S.H.frozen' (i:=8) ω;have U:wc.cell? ⟨R,9,none⟩ =some (.bool false):=S.H.cell (i:=9) ω;have f9:=S.H.frozen' (i:=9) ω;have Y:wc.cell? ⟨R,10,none⟩ =some (.bool false):=S.H.cell (i:=10) ω;have C:=S.H.frozen' (i:=10) ω
      go_wp2_with ((with_reducible (show bodyPost _ _ _ _ _ _));exact bh (eN S.err.1 rfl rfl rfl) rfl (jP S.err.2 d.out δ))
    have TK:12<=l.length:=by rw[<-L.out];omega
    obtain⟨i0,hi,u,g,t⟩ :=aJ gC;obtain⟨A5,ri⟩ :=ν (dx (some f) c 10);obtain⟨d5,yZ⟩ :=ν (c-10)
    have co:∀W,(Instr.slice 22 (.slice (some f) n c) (some (.int .i64 10)) (some (.int .i64 12)) none).run Tryz.prog W= .ok (.slice A5 2 d5) W:=λW=>by
     have:=fR (P:=Tryz.prog) 22 5 Tryz.underlying22 hi g (some f) n c (a:=10) (b:=12) ω ω W;rw[ri,yZ]at this;exact this
    have pP:bU .u8 wc B A5 2 ((l.drop 10).take 2):=ri▸Bp T.S.rd ω hc;have ah:=B5 (lU (oJ hb 10) 2);rw[show((l.drop 10).take 2).length=2 by rw[aA,av,<-L.out];omega]at ah;obtain⟨N,hN⟩ :=aG ah.1;rw[hN]at ah;have dp:N<65536:=by have:=ah.2;omega
    have OA:=η hN;clear ah hN ri yZ;by_cases cX:(n:Int)<12+N
    · have ca:l.length<12+N:=by rw[<-L.out];omega
      clear hi u g t
      go_wp2_with fail;refine(pV wc B 2 d5 A5 _ pP ω (lU (oJ hb 10) 2)).mono ?_;rintro E w7 ⟨rfl,Ci⟩;obtain rfl:=Ci.symm;rw[OA.out];have d:Hid (jM l=5):=by show _=_;exact Tj HT.out C7.out TK OA.out ca
      have r0:wc.cell? ⟨R,0,none⟩ =some (.bool false):=S.H.cell (i:=0) ω;have f0:=S.H.frozen' (i:=0) ω;have O:wc.cell? ⟨R,1,none⟩ =some (.bool false):=S.H.cell (i:=1) ω;have f1:=S.H.frozen' (i:=1) ω;have r2:wc.cell? ⟨R,2,none⟩ =some (.int .u32 0):=S.H.cell (i:=2) ω;have f2:=S.H.frozen' (i:=2) ω;have r3:wc.cell? ⟨R,3,none⟩ =some (.int .u8 0):=S.H.cell (i:=3) ω;have f3:=S.H.frozen' (i:=3) ω;have r4:wc.cell? ⟨R,4,none⟩ =some (.int .u8 0):=S.H.cell (i:=4) ω;have f4:=S.H.frozen' (i:=4) ω;have D:wc.cell? ⟨R,5,none⟩ =some (.slice none 0 0):=S.H.cell (i:=5) ω;have Q:=S.H.frozen' (i:=5) ω;have V:wc.cell? ⟨R,6,none⟩ =some (.bool false):=S.H.cell (i:=6) ω;have f6:=S.H.frozen' (i:=6) ω;have r7:wc.cell? ⟨R,7,none⟩ =some (.string ByteArray.empty):=S.H.cell (i:=7) ω;have f7:=S.H.frozen' (i:=7) ω;have r8:wc.cell? ⟨R,8,none⟩ =some (.string ByteArray.empty):=S.H.cell (i:=8) ω;have f8:=S.H.frozen' (i:=8) ω;have U:wc.cell? ⟨R,9,none⟩ =some (.bool false):=S.H.cell (i:=9) ω;have f9:=S.H.frozen' (i:=9) ω;have Y:wc.cell? ⟨R,10,none⟩ =some (.bool false):=S.H.cell (i:=10) ω;have C:=S.H.frozen' (i:=10) ω
      go_wp2_with ((with_reducible (show bodyPost _ _ _ _ _ _));exact bh (eN S.err.1 rfl rfl rfl) rfl (jP S.err.2 d.out δ))
    have ca:12+N<=l.length:=by rw[<-L.out];omega
    have d:=η (Tl HT.out C7.out TK OA.out ca);obtain⟨A6,Dh⟩ :=ν (dx (some f) c 12);obtain⟨d6,ce⟩ :=ν (c-12)
    have cl:∀W,(Instr.slice 22 (.slice (some f) n c) (some (.int .i64 12)) (some (.int .i64 (12+(N:Int)))) none).run Tryz.prog W= .ok (.slice A6 N d6) W:=λW=>by
     have:=fR (P:=Tryz.prog) 22 5 Tryz.underlying22 hi g (some f) n c (a:=12) (b:=12+N) ω ω W;rw[Dh,ce,show 12+N-12=N by omega]at this;exact this
    have aE:bU .u8 wc B A6 N ((l.drop 12).take N):=Dh▸Bp T.S.rd ω hc;have Hi:=η hi;have gV:=η u;have fY:=η g;have gW:=η t;clear hi u g t Dh ce
    go_wp2_with fail;refine(pV wc B 2 d5 A5 _ pP ω (lU (oJ hb 10) 2)).mono ?_;rintro E w7 ⟨rfl,Ci⟩;obtain rfl:=Ci.symm;rw[OA.out];have dq:=T.H.lt;have T2:=T.lit (Z:=wc.heap.size) rfl;have cp:=aE.alloc (by have:=T.S.H.lt;have:=T.S.BR;omega) (.cells #[] 5)
    go_wp2_with (at_builtin;go_must (refine ba .u8 (K+1) 5 i0 1 rfl (.tmp 105) (.tmp 111) _ rfl Tryz.underlying22 Hi.out gV.out fY.out gW.out rfl T2.own rfl cp ω ω ξ ?_))
    intro A8 c8 w8 cq cs dj;have T3:=T2.grown cs cq;have D:=T3.H.cell (i:=5) ω;have Q:=T3.H.frozen' (i:=5) ω;unfold hf at D;go_wp2;go_meet;refine⟨A8,N,c8,by rw[d.out.2.1];go_num, ⟨d.out.1,by rw[d.out.2.1];omega⟩, ?_⟩;rw[d.out.2.2];exact T3.bC (i:=5) (h':={ o with ex:= .slice A8 N c8 }) ω (.slice A8 N c8) (λj hj=>by rcases rL hj with rfl | rfl | rfl | rfl | rfl | rfl | rfl | rfl | rfl | rfl | rfl <;> rfl)
 case rest=>
 clear T V;obtain⟨X,m,cc,rfl,bl,T⟩ :=hcut;have U:wc.cell? ⟨K,9,none⟩ =some (.bool (bit F 8)):=by rw[<-HE.out.2.1];exact T.H.cell (i:=9) ω
 obtain⟨a8,bE⟩ :=ν (b9 l);have am:=η bE;have bB:a8<=n:=by have:=bl.out.2;omega
 rw[bE];clear bE
 go_upto_if 118 with fail
 go_cut [9] (λs wx=>s= .int .i64 (tQ l)/\Hid (uK l=0/\tQ l<=n)/\RT w wx B R (some f) n l K { o with ex:= .slice X m cc,nm:=strOf (ya l) } X m cc (yy l))
 case first=>
  have S:=T.S;cases z:bit F 8 with
  | false=>
    have d:=η (Vz bl.out.1 (by rw[Rm.out];exact z));go_wp2;go_meet;refine⟨by rw[d.out.2.1,am.out], ⟨d.out.1,by rw[d.out.2.1,am.out];exact bB⟩, ?_⟩;rw[d.out.2.2]
    exact(by have h9: { o with ex:= .slice X m cc,nm:=strOf [] }={ o with ex:= .slice X m cc }:=by rw[bo.out];rfl
             rw[h9];exact T)
  | true=>
    have C7:Hid (bit (fB l) 8=true):=by show _=_;rw[Rm.out];exact z
    obtain⟨i0,hi,u,g,t⟩ :=aJ gC;obtain⟨r,Q6⟩ :=ν (l.drop a8);obtain⟨OI,Hz⟩ :∃OI,dx (some f) c a8=some OI:=by unfold dx;split <;> exact⟨_,rfl⟩
    have K7:=dc (P:=Tryz.prog) 22 5 Tryz.underlying22 hi g (some f) n c (j:=a8) bB;rw[Hz]at K7;obtain⟨G,Lz⟩ :=ν (n-a8);obtain⟨d9,PH⟩ :=ν (c-a8);have Q8:bU .u8 wc B (some OI) G r:=by rw[<-Hz,<-Lz,<-Q6];exact bU.dx T.S.rd bB hc
    rw[Lz,PH]at K7;have su:r.length=G:=Q8.1.symm;have cr:G<=d9/\G<=1000000/\a8+G=n:=ω;have AZ:=Ga r;obtain⟨E9,TQ⟩ :=ν ((qV r).2.2);obtain⟨k9,K4⟩ :=ν ((qV r).2.1);obtain⟨t9,ZV⟩ :=ν ((qV r).1)
    have J:∀W,bU .u8 W B (some OI) G r->Calls Tryz.prog 48 #[.slice (some OI) G d9] W λe w'=>e= .returned (.tuple #[.string (strOf t9), .int .i64 (k9:Int), .int .i64 E9])/\w'=W:=λW h=>by
     have:=DV W B G d9 OI r h ω ω;unfold QN at this;rw[TQ,K4,ZV]at this;exact this
    have al:=η (J wc Q8);rw[K4]at AZ;have bt:a8+k9<=n:=ω;by_cases nK:E9=0
    · have d:=η (VA bl.out.1 C7.out (by rw[am.out,Q6,TQ];exact nK));rw[am.out,Q6,K4,ZV]at d;subst nK;have D:=T.H.cell (i:=7) ω;have Q:=T.H.frozen' (i:=7) ω;unfold hf at D;clear hi u g t Q6 Hz Lz PH TQ K4 ZV J
      go_wp2_with fail;refine al.out.mono ?_;rintro E w7 ⟨rfl,Ci⟩;obtain rfl:=Ci.symm;go_wp2;go_meet;refine⟨by rw[d.out.2.1];go_num, ⟨d.out.1,by rw[d.out.2.1];exact bt⟩, ?_⟩;rw[d.out.2.2];exact T.bC (i:=7) ω _ (λj hj=>by rcases rL hj with rfl | rfl | rfl | rfl | rfl | rfl | rfl | rfl | rfl | rfl | rfl <;> rfl)
    have jK:=a0b bl.out.1 C7.out (e:=E9) (by rw[am.out,Q6,TQ]) nK;have Sc:=η jK;clear hi u g t Q6 Hz Lz PH TQ K4 ZV J jK
    go_wp2_with fail;refine al.out.mono ?_;rintro E w7 ⟨rfl,Ci⟩;obtain rfl:=Ci.symm;have d:Hid (jM l=E9):=by show _=_;exact Sc.out
    have r0:wc.cell? ⟨R,0,none⟩ =some (.bool false):=S.H.cell (i:=0) ω;have f0:=S.H.frozen' (i:=0) ω;have O:wc.cell? ⟨R,1,none⟩ =some (.bool false):=S.H.cell (i:=1) ω;have f1:=S.H.frozen' (i:=1) ω;have r2:wc.cell? ⟨R,2,none⟩ =some (.int .u32 0):=S.H.cell (i:=2) ω;have f2:=S.H.frozen' (i:=2) ω;have r3:wc.cell? ⟨R,3,none⟩ =some (.int .u8 0):=S.H.cell (i:=3) ω;have f3:=S.H.frozen' (i:=3) ω;have r4:wc.cell? ⟨R,4,none⟩ =some (.int .u8 0):=S.H.cell (i:=4) ω;have f4:=S.H.frozen' (i:=4) ω;have D:wc.cell? ⟨R,5,none⟩ =some (.slice none 0 0):=S.H.cell (i:=5) ω;have Q:=S.H.frozen' (i:=5) ω;have V:wc.cell? ⟨R,6,none⟩ =some (.bool false):=S.H.cell (i:=6) ω;have f6:=S.H.frozen' (i:=6) ω;have r7:wc.cell? ⟨R,7,none⟩ =some (.string ByteArray.empty):=S.H.cell (i:=7) ω;have f7:=S.H.frozen' (i:=7) ω;have r8:wc.cell? ⟨R,8,none⟩ =some (.string ByteArray.empty):=S.H.cell (i:=8) ω;have f8:=S.H.frozen' (i:=8) ω;have U:wc.cell? ⟨R,9,none⟩ =some (.bool false):=S.H.cell (i:=9) ω;have f9:=S.H.frozen' (i:=9) ω;have Y:wc.cell? ⟨R,10,none⟩ =some (.bool false):=S.H.cell (i:=10) ω;have C:=S.H.frozen' (i:=10) ω
    go_wp2_with ((with_reducible (show bodyPost _ _ _ _ _ _));exact bh (eN S.err.1 rfl rfl rfl) rfl (jP S.err.2 d.out nK))
 case rest=>
 clear T U;obtain⟨rfl,XS,T⟩ :=hcut;have Y:wc.cell? ⟨K,10,none⟩ =some (.bool (bit F 16)):=by rw[<-HE.out.2.2.1];exact T.H.cell (i:=10) ω
 obtain⟨I,bX⟩ :=ν (tQ l);have S9:=η bX;have TZ:I<=n:=by have:=XS.out.2;omega
 rw[bX];clear bX
 go_upto_if 137 with fail
 go_cut [9] (λs wx=>s= .int .i64 (lZ l)/\Hid (rz l=0/\lZ l<=n)/\RT w wx B R (some f) n l K { o with ex:= .slice X m cc,nm:=strOf (ya l),cm:=strOf (CU l) } X m cc (yy l))
 case first=>
  have S:=T.S;cases z:bit F 16 with
  | false=>
    have d:=η (SV XS.out.1 (by rw[Rm.out];exact z));go_wp2;go_meet;refine⟨by rw[d.out.2.1,S9.out], ⟨d.out.1,by rw[d.out.2.1,S9.out];exact TZ⟩, ?_⟩;rw[d.out.2.2]
    exact(by have h9: { o with ex:= .slice X m cc,nm:=strOf (ya l),cm:=strOf [] }={ o with ex:= .slice X m cc,nm:=strOf (ya l) }:=by rw[bo.out];rfl
             rw[h9];exact T)
  | true=>
    have C7:Hid (bit (fB l) 16=true):=by show _=_;rw[Rm.out];exact z
    obtain⟨i0,hi,u,g,t⟩ :=aJ gC;obtain⟨r,Q6⟩ :=ν (l.drop I);obtain⟨OI,Hz⟩ :∃OI,dx (some f) c I=some OI:=by unfold dx;split <;> exact⟨_,rfl⟩
    have K7:=dc (P:=Tryz.prog) 22 5 Tryz.underlying22 hi g (some f) n c (j:=I) TZ;rw[Hz]at K7;obtain⟨G,Lz⟩ :=ν (n-I);obtain⟨d9,PH⟩ :=ν (c-I);have Q8:bU .u8 wc B (some OI) G r:=by rw[<-Hz,<-Lz,<-Q6];exact bU.dx T.S.rd TZ hc
    rw[Lz,PH]at K7;have su:r.length=G:=Q8.1.symm;have cr:G<=d9/\G<=1000000/\I+G=n:=ω;have AZ:=Ga r;obtain⟨E9,TQ⟩ :=ν ((qV r).2.2);obtain⟨k9,K4⟩ :=ν ((qV r).2.1);obtain⟨t9,ZV⟩ :=ν ((qV r).1)
    have J:∀W,bU .u8 W B (some OI) G r->Calls Tryz.prog 48 #[.slice (some OI) G d9] W λe w'=>e= .returned (.tuple #[.string (strOf t9), .int .i64 (k9:Int), .int .i64 E9])/\w'=W:=λW h=>by
     have:=DV W B G d9 OI r h ω ω;unfold QN at this;rw[TQ,K4,ZV]at this;exact this
    have al:=η (J wc Q8);rw[K4]at AZ;have bt:I+k9<=n:=ω;by_cases nK:E9=0
    · have d:=η (SX XS.out.1 C7.out (by rw[S9.out,Q6,TQ];exact nK));rw[S9.out,Q6,K4,ZV]at d;subst nK;have D:=T.H.cell (i:=8) ω;have Q:=T.H.frozen' (i:=8) ω;unfold hf at D;clear hi u g t Q6 Hz Lz PH TQ K4 ZV J
      go_wp2_with fail;refine al.out.mono ?_;rintro E w7 ⟨rfl,Ci⟩;obtain rfl:=Ci.symm;go_wp2;go_meet;refine⟨by rw[d.out.2.1];go_num, ⟨d.out.1,by rw[d.out.2.1];exact bt⟩, ?_⟩;rw[d.out.2.2];exact T.bC (i:=8) ω _ (λj hj=>by rcases rL hj with rfl | rfl | rfl | rfl | rfl | rfl | rfl | rfl | rfl | rfl | rfl <;> rfl)
    have jK:=Yc XS.out.1 C7.out (e:=E9) (by rw[S9.out,Q6,TQ]) nK;have Sc:=η jK;clear hi u g t Q6 Hz Lz PH TQ K4 ZV J jK
    go_wp2_with fail;refine al.out.mono ?_;rintro E w7 ⟨rfl,Ci⟩;obtain rfl:=Ci.symm;have d:Hid (jM l=E9):=by show _=_;exact Sc.out
    have r0:wc.cell? ⟨R,0,none⟩ =some (.bool false):=S.H.cell (i:=0) ω;have f0:=S.H.frozen' (i:=0) ω;have O:wc.cell? ⟨R,1,none⟩ =some (.bool false):=S.H.cell (i:=1) ω;have f1:=S.H.frozen' (i:=1) ω;have r2:wc.cell? ⟨R,2,none⟩ =some (.int .u32 0):=S.H.cell (i:=2) ω;have f2:=S.H.frozen' (i:=2) ω;have r3:wc.cell? ⟨R,3,none⟩ =some (.int .u8 0):=S.H.cell (i:=3) ω;have f3:=S.H.frozen' (i:=3) ω;have r4:wc.cell? ⟨R,4,none⟩ =some (.int .u8 0):=S.H.cell (i:=4) ω;have f4:=S.H.frozen' (i:=4) ω;have D:wc.cell? ⟨R,5,none⟩ =some (.slice none 0 0):=S.H.cell (i:=5) ω;have Q:=S.H.frozen' (i:=5) ω;have V:wc.cell? ⟨R,6,none⟩ =some (.bool false):=S.H.cell (i:=6) ω;have f6:=S.H.frozen' (i:=6) ω;have r7:wc.cell? ⟨R,7,none⟩ =some (.string ByteArray.empty):=S.H.cell (i:=7) ω;have f7:=S.H.frozen' (i:=7) ω;have r8:wc.cell? ⟨R,8,none⟩ =some (.string ByteArray.empty):=S.H.cell (i:=8) ω;have f8:=S.H.frozen' (i:=8) ω;have U:wc.cell? ⟨R,9,none⟩ =some (.bool false):=S.H.cell (i:=9) ω;have f9:=S.H.frozen' (i:=9) ω;have Y:wc.cell? ⟨R,10,none⟩ =some (.bool false):=S.H.cell (i:=10) ω;have C:=S.H.frozen' (i:=10) ω
    go_wp2_with ((with_reducible (show bodyPost _ _ _ _ _ _));exact bh (eN S.err.1 rfl rfl rfl) rfl (jP S.err.2 d.out nK))
 case rest=>
 clear T Y;obtain⟨rfl,Sj,T⟩ :=hcut;have O:wc.cell? ⟨K,1,none⟩ =some (.bool (bit F 2)):=by rw[<-HE.out.2.2.2];exact T.H.cell (i:=1) ω
 obtain⟨p,bI⟩ :=ν (lZ l);have tP:=η bI;have cw:p<=n:=by have:=Sj.out.2;omega
 rw[bI];clear bI
 go_upto_if 156 with fail
 go_cut [9] (λs wx=>s= .int .i64 (rN l)/\Hid (jM l=0)/\RT w wx B R (some f) n l K { o with ex:= .slice X m cc,nm:=strOf (ya l),cm:=strOf (CU l) } X m cc (yy l))
 case first=>
  have S:=T.S;cases z:bit F 2 with
  | false=>
    have d:=η (WH Sj.out.1 (by rw[Rm.out];exact z));go_wp2;go_meet;exact⟨by rw[d.out.2,tP.out],d.out.1,T⟩
  | true=>
    have C7:Hid (bit (fB l) 2=true):=by show _=_;rw[Rm.out];exact z
    by_cases pn:(n:Int)<p+2
    · have za:l.length<lZ l+2:=by rw[<-L.out,tP.out];omega
      have d:Hid (jM l=5):=by show _=_;exact a0A Sj.out.1 C7.out za
      have r0:wc.cell? ⟨R,0,none⟩ =some (.bool false):=S.H.cell (i:=0) ω;have f0:=S.H.frozen' (i:=0) ω;have O:wc.cell? ⟨R,1,none⟩ =some (.bool false):=S.H.cell (i:=1) ω;have f1:=S.H.frozen' (i:=1) ω;have r2:wc.cell? ⟨R,2,none⟩ =some (.int .u32 0):=S.H.cell (i:=2) ω;have f2:=S.H.frozen' (i:=2) ω;have r3:wc.cell? ⟨R,3,none⟩ =some (.int .u8 0):=S.H.cell (i:=3) ω;have f3:=S.H.frozen' (i:=3) ω;have r4:wc.cell? ⟨R,4,none⟩ =some (.int .u8 0):=S.H.cell (i:=4) ω;have f4:=S.H.frozen' (i:=4) ω;have D:wc.cell? ⟨R,5,none⟩ =some (.slice none 0 0):=S.H.cell (i:=5) ω;have Q:=S.H.frozen' (i:=5) ω;have V:wc.cell? ⟨R,6,none⟩ =some (.bool false):=S.H.cell (i:=6) ω;have f6:=S.H.frozen' (i:=6) ω;have r7:wc.cell? ⟨R,7,none⟩ =some (.string ByteArray.empty):=S.H.cell (i:=7) ω;have f7:=S.H.frozen' (i:=7) ω;have r8:wc.cell? ⟨R,8,none⟩ =some (.string ByteArray.empty):=S.H.cell (i:=8) ω;have f8:=S.H.frozen' (i:=8) ω;have U:wc.cell? ⟨R,9,none⟩ =some (.bool false):=S.H.cell (i:=9) ω;have f9:=S.H.frozen' (i:=9) ω;have Y:wc.cell? ⟨R,10,none⟩ =some (.bool false):=S.H.cell (i:=10) ω;have C:=S.H.frozen' (i:=10) ω
      go_wp2_with ((with_reducible (show bodyPost _ _ _ _ _ _));exact bh (eN S.err.1 rfl rfl rfl) rfl (jP S.err.2 d.out δ))
    have za:lZ l+2<=l.length:=by rw[<-L.out,tP.out];omega
    have ci:=η za;clear za;obtain⟨i0,hi,u,g,t⟩ :=aJ gC;obtain⟨A5,ri⟩ :=ν (dx (some f) c p);obtain⟨d5,yZ⟩ :=ν (c-p)
    have co:∀W,(Instr.slice 22 (.slice (some f) n c) (some (.int .i64 (p:Int))) (some (.int .i64 ((p:Int)+2))) none).run Tryz.prog W= .ok (.slice A5 2 d5) W:=λW=>by
     have:=fR (P:=Tryz.prog) 22 5 Tryz.underlying22 hi g (some f) n c (a:=p) (b:=p+2) ω ω W;rw[ri,yZ,show p+2-p=2 by omega]at this;exact this
    have cl:=dV (P:=Tryz.prog) 22 5 Tryz.underlying22 hi g (some f) n c (j:=p) ω;have pP:bU .u8 wc B A5 2 ((l.drop p).take 2):=ri▸Bp T.S.rd ω hc;have aE:bU .u8 wc B (some f) p (l.take p):=bU.pre T.S.rd cw;clear hi u g t ri yZ;obtain⟨y,hy⟩ :=ν (mM ((l.drop p).take 2));have yD:=jZ (tq (x:=iq 0) (l:=l.take p) (jZ ω) (gp (lU hb _)) p);obtain⟨cv,bi⟩ :=ν (iq (lW (iq 0) (l.take p) p));have cb:Hid (EF l=cv%65536):=by show _=_;unfold EF;rw[tP.out,bi]
    rw[bi]at yD;have HY:Hid (mM ((l.drop (lZ l)).take 2)=y):=by show _=_;rw[tP.out];exact hy
    have GG:Hid (∀q,Calls Tryz.prog 32 #[.slice A5 2 d5] (wc.drewN q) λe w'=>e= .returned (.int .i64 y)/\w'=wc.drewN q):=λq=>by
     have:=pV (wc.drewN q) B 2 d5 A5 _ (pP.drewN q) ω (lU (oJ hb p) 2);rw[hy]at this;exact this
    have a1E:Hid (∀q,Calls Tryz.prog 33 #[.int .u32 0, .slice (some f) p c] (wc.drewN q) λe w'=>e= .returned (.int .u32 cv)/\w'=wc.drewN q):=λq=>by
     have:=J6 0 (some f) p c B (l.take p) (wc.drewN q) (aE.drewN q) (gp (lU hb _)) ω ω;rw[bi]at this;exact this.mono λ_ _ h=> ⟨h.1,h.2.symm⟩
    clear hy bi;obtain⟨v,hv⟩ :=ν (cv%65536);have cW:0<=v/\v<65536:=ω;rw[hv]at cb;have AQ:=(show¬(n:Int)<(p:Int)+2 from pn);have e1:(IntKind.i64.wrap ((p:Int)+2))=(p:Int)+2:=aK _ ω;have e2:cv.tmod 65536=v:=by rw[cK yD.1];exact hv
    have dk:(0:Int)<=p/\(p:Int)+2<=n/\(n:Int)<=1000000:=ω;by_cases an:y=v
    · have d:=η (WI Sj.out.1 C7.out ci.out (by rw[HY.out,cb.out];exact an));rw[tP.out]at d;subst an
      go_wp2_with fail;go_quiet ((first | (go_at_call 32;exact bK (GG.out _)) | (go_at_call 33;exact bK (a1E.out _))));go_wp2;go_meet;exact⟨by rw[d.out.2];go_num,d.out.1,T.drewN _⟩
    have Sc:=η (a0z Sj.out.1 C7.out ci.out (by rw[HY.out,cb.out];exact an));have cH:(y != v)=true:=by simpa using an
    go_wp2_with fail;go_quiet ((first | (go_at_call 32;exact bK (GG.out _)) | (go_at_call 33;exact bK (a1E.out _))));replace S:=S.drewN nq;clear pP aE GG a1E T O;revert S;generalize wc.drewN nq=wc;intro S;have d:Hid (jM l=4):=by show _=_;exact Sc.out
    have r0:wc.cell? ⟨R,0,none⟩ =some (.bool false):=S.H.cell (i:=0) ω;have f0:=S.H.frozen' (i:=0) ω;have O:wc.cell? ⟨R,1,none⟩ =some (.bool false):=S.H.cell (i:=1) ω;have f1:=S.H.frozen' (i:=1) ω;have r2:wc.cell? ⟨R,2,none⟩ =some (.int .u32 0):=S.H.cell (i:=2) ω;have f2:=S.H.frozen' (i:=2) ω;have r3:wc.cell? ⟨R,3,none⟩ =some (.int .u8 0):=S.H.cell (i:=3) ω;have f3:=S.H.frozen' (i:=3) ω;have r4:wc.cell? ⟨R,4,none⟩ =some (.int .u8 0):=S.H.cell (i:=4) ω;have f4:=S.H.frozen' (i:=4) ω;have D:wc.cell? ⟨R,5,none⟩ =some (.slice none 0 0):=S.H.cell (i:=5) ω;have Q:=S.H.frozen' (i:=5) ω;have V:wc.cell? ⟨R,6,none⟩ =some (.bool false):=S.H.cell (i:=6) ω;have f6:=S.H.frozen' (i:=6) ω;have r7:wc.cell? ⟨R,7,none⟩ =some (.string ByteArray.empty):=S.H.cell (i:=7) ω;have f7:=S.H.frozen' (i:=7) ω;have r8:wc.cell? ⟨R,8,none⟩ =some (.string ByteArray.empty):=S.H.cell (i:=8) ω;have f8:=S.H.frozen' (i:=8) ω;have U:wc.cell? ⟨R,9,none⟩ =some (.bool false):=S.H.cell (i:=9) ω;have f9:=S.H.frozen' (i:=9) ω;have Y:wc.cell? ⟨R,10,none⟩ =some (.bool false):=S.H.cell (i:=10) ω;have C:=S.H.frozen' (i:=10) ω
    go_wp2_with ((with_reducible (show bodyPost _ _ _ _ _ _));exact bh (eN S.err.1 rfl rfl rfl) rfl (jP S.err.2 d.out δ))
 case rest=>
 clear T O;obtain⟨rfl,cE,T⟩ :=hcut;have k0:wc.cell? ⟨K,0,none⟩ =some (.bool o.tx):=T.H.cell (i:=0) ω;have k1:wc.cell? ⟨K,1,none⟩ =some (.bool o.sm):=T.H.cell (i:=1) ω;have k2:wc.cell? ⟨K,2,none⟩ =some (.int .u32 o.tm):=T.H.cell (i:=2) ω;have k3:wc.cell? ⟨K,3,none⟩ =some (.int .u8 o.fl):=T.H.cell (i:=3) ω;have k4:wc.cell? ⟨K,4,none⟩ =some (.int .u8 o.sy):=T.H.cell (i:=4) ω;have k5:wc.cell? ⟨K,5,none⟩ =some (.slice X m cc):=T.H.cell (i:=5) ω;have k6:wc.cell? ⟨K,6,none⟩ =some (.bool o.hE):=T.H.cell (i:=6) ω;have k7:wc.cell? ⟨K,7,none⟩ =some (.string (strOf (ya l))):=T.H.cell (i:=7) ω;have k8:wc.cell? ⟨K,8,none⟩ =some (.string (strOf (CU l))):=T.H.cell (i:=8) ω;have k9:wc.cell? ⟨K,9,none⟩ =some (.bool o.hN):=T.H.cell (i:=9) ω;have XC:wc.cell? ⟨K,10,none⟩ =some (.bool o.hC):=T.H.cell (i:=10) ω;have r0:wc.cell? ⟨R,0,none⟩ =some (.bool false):=T.S.H.cell (i:=0) ω;have f0:=T.S.H.frozen' (i:=0) ω;have O:wc.cell? ⟨R,1,none⟩ =some (.bool false):=T.S.H.cell (i:=1) ω;have f1:=T.S.H.frozen' (i:=1) ω;have r2:wc.cell? ⟨R,2,none⟩ =some (.int .u32 0):=T.S.H.cell (i:=2) ω;have f2:=T.S.H.frozen' (i:=2) ω;have r3:wc.cell? ⟨R,3,none⟩ =some (.int .u8 0):=T.S.H.cell (i:=3) ω;have f3:=T.S.H.frozen' (i:=3) ω;have r4:wc.cell? ⟨R,4,none⟩ =some (.int .u8 0):=T.S.H.cell (i:=4) ω;have f4:=T.S.H.frozen' (i:=4) ω;have D:wc.cell? ⟨R,5,none⟩ =some (.slice none 0 0):=T.S.H.cell (i:=5) ω;have Q:=T.S.H.frozen' (i:=5) ω;have V:wc.cell? ⟨R,6,none⟩ =some (.bool false):=T.S.H.cell (i:=6) ω;have f6:=T.S.H.frozen' (i:=6) ω;have r7:wc.cell? ⟨R,7,none⟩ =some (.string ByteArray.empty):=T.S.H.cell (i:=7) ω;have f7:=T.S.H.frozen' (i:=7) ω;have r8:wc.cell? ⟨R,8,none⟩ =some (.string ByteArray.empty):=T.S.H.cell (i:=8) ω;have f8:=T.S.H.frozen' (i:=8) ω;have U:wc.cell? ⟨R,9,none⟩ =some (.bool false):=T.S.H.cell (i:=9) ω;have f9:=T.S.H.frozen' (i:=9) ω;have Y:wc.cell? ⟨R,10,none⟩ =some (.bool false):=T.S.H.cell (i:=10) ω;have C:=T.S.H.frozen' (i:=10) ω;have ds:¬K=R:=by have:=T.lt;omega
 have dl:¬R=K:=by have:=T.lt;omega
 have hm:m<=cc/\cc<=maxLen:=by
  rcases T.own.2 with ⟨_,o,h2⟩ | ⟨_,_,_,_,_,o,h2,_⟩
  · omega
  exact⟨o,h2⟩
 have ck:=η hm;clear hm
 have a8g:Hid ({ o with ex:= .slice X m cc,nm:=strOf (ya l),cm:=strOf (CU l) }=CI l (.slice X m cc)):=by
  show _=_;unfold CI;rw[bo.out,HT.out.2.2.1,HT.out.2.2.2.1,HT.out.2.2.2.2.1,HT.out.2.2.2.2.2,HF.out,cg.out,cD.out,cB.out]
 go_wp2_with ((with_reducible (show bodyPost _ _ _ _ _ _));exact bh (eN (T.fin).1 rfl rfl rfl) rfl ⟨X,m,cc,yy l,ck.out.1,ck.out.2,(T.fin).2.2,λk hk=>by have:=(T.own.2.lt hk).1;have:=T.lt;have:=T.S.eq;omega,(T.fin).2.1, .inl ⟨cE.out,rfl,by rw[<-a8g.out];rfl⟩⟩)
end Go.Proofs.YtdhmnlpfhfmpfaaGreat
