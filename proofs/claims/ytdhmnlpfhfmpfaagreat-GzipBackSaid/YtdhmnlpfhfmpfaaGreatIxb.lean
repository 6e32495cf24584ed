/-
  part
-/
import Derived.Test.YtdhmnlpfhfmpfaaGreatPk6
import Derived.Test.YtdhmnlpfhfmpfaaGreatProg
import Derived.Lib.Bytealg
import Derived.Laws.Externs
namespace Go.Proofs.YtdhmnlpfhfmpfaaGreat
open Go.RowKit
set_option linter.unusedVariables false
set_option maxRecDepth 100000
set_option maxHeartbeats 4000000
theorem qQ (w:World) (s:ByteArray) (c:Int):
  Calls Tryz.prog 60 #[.string s, .int .u8 c] w λe w'=>e= .returned (.int .i64 (Lib.indexByte s.data.toList c.toNat.toUInt8))/\w=w':=by
 go_enter Tryz.func60,Tryz.ntmps60;go_wp2;rw[run_callFunc_extern Tryz.func105 (by kernel_rfl) (by kernel_rfl) (by kernel_rfl) (e:=Extern.BytealgIndexByte.indexByte) (by kernel_rfl),Lib.run_indexByteString];simp only [Result.andThen];rw[Oper.upon_value];go_wp2;go_ret;exact⟨rfl,rfl⟩
theorem kd (l:aj):(strOf l).data.toList=l.map λn=>UInt8.ofNat n.toNat:=by
 have:∀(l:aj) (s:ByteArray),(l.foldl (λr n=>r.push (UInt8.ofNat n.toNat)) s).data.toList=s.data.toList++l.map λn=>UInt8.ofNat n.toNat:=by
  intro l;induction l with
  | nil=>intro s;simp
  | cons a l b=>intro s;rw[ic,b];simp [ByteArray.push]
 rw[strOf,this];simp
theorem a1c {x:Int} (h:0<=x/\x<256):(UInt8.ofNat x.toNat==0)=decide (x=0):=by
 obtain⟨k,rfl⟩ :=aJ h.1;have c:k<256:=ω
 have:(UInt8.ofNat k=0)↔k=0:=by
  rw[<-UInt8.toNat_inj];simp;omega
 rw[show(Int.toNat (k:Int))=k by simp];by_cases a:k=0
 · simp [a]
 have b:¬UInt8.ofNat k=0:=λh=>a (this.1 h);simp [a,b]
theorem VV {l:aj} (h:∀x∈l,0<=x/\x<256):Lib.indexByte (strOf l).data.toList (Int.toNat 0).toUInt8=if nz l<l.length then(nz l:Int)else -1:=by
 rw[kd];induction l with
 | nil=>simp [Lib.indexByte]
 | cons x l e=>
   have a:=e λy f=>h y (aI _ f);have g:=a1c (h x (aH ..));rw[List.map_cons];unfold Lib.indexByte;rw[show(Int.toNat 0).toUInt8=0 from rfl]at a⊢;rw[a,g,nY];by_cases d:x=0
   · simp [d]
   simp only [d,decide_false,Bool.false_eq_true,if_false,List.length_cons];by_cases c:nz l<l.length
   · have i:¬((nz l:Int)== -1)=true:=σ;have b:nz l+1<l.length+1:=ω;rw[af c,aa i,af b];rfl
   have b:¬nz l+1<l.length+1:=ω;rw[aa c,aa b];simp
theorem a0F {l:aj} {k:Nat}:nz (l.take k)=min (nz l) k:=by
 induction l generalizing k with
 | nil=>simp [nz]
 | cons x l a=>
   cases k with
   | zero=>simp [nz]
   | succ k=>
     rw[cO,nY,nY];split
     · omega
     rw[a];omega
theorem qi {P:Program} {w:World} (a b e:TypeId) {g:Addr} {B n:Nat} (c:Nat) {l:aj} (i:P.underlying a=some (.slice e)) (f:P.underlying e=some (.int .u8)) (hd:P.underlying b=some .string)
  (h:bT .u8 w B (some g) n l):(convert a b (.slice (some g) n c)).run P w= .ok (.string (strOf l)) w:=by
 have k:=h.1;subst k;rw[run_convert_bytes_string w a b e _ _ c i f hd];refine run_bytesToString w _ _ c l ?_
 have:=run_loadCells_list (P:=P) w g (l.map (Value.int .u8)) (λj v hv=>by
  have d:j<l.length:=by
   rcases aV j l.length with h' | h'
   · exact h'
   rw[bw (by simpa using h')]at hv;cases hv
  obtain⟨o,f,_,m⟩ :=h.at_ d;cases f;rw[m];simp [d]at hv;rw[<-hv];simp [ix,d])
 simpa using this
end Go.Proofs.YtdhmnlpfhfmpfaaGreat
