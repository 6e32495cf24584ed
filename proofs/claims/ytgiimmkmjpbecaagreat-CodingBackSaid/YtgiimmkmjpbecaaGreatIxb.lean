/-
  part
-/
import Derived.Test.YtgiimmkmjpbecaaGreatPk6
import Derived.Test.YtgiimmkmjpbecaaGreatProg
import Derived.Lib.Bytealg
import Derived.Laws.Externs
namespace Go.Proofs.YtgiimmkmjpbecaaGreat
open Go.RowKit
set_option linter.unusedVariables false
set_option maxRecDepth 100000
set_option maxHeartbeats 4000000
theorem zb (w:World) (s:ByteArray) (c:Int):
  Calls Tryz.prog 55 #[.string s, .int .u8 c] w λe w'=>e= .returned (.int .i64 (Lib.indexByte s.data.toList c.toNat.toUInt8))/\w=w':=by
 go_in
 go_wp2;rw[run_callFunc_extern Tryz.func69 (by kernel_rfl) (by kernel_rfl) (by kernel_rfl) (e:=Extern.BytealgIndexByte.indexByte) (by kernel_rfl),Lib.run_indexByteString];simp only [Result.andThen];rw[Oper.upon_value];go_wp2;go_ret;exact⟨rfl,rfl⟩
theorem BQ (l:ag):(strOf l).data.toList=l.map λn=>UInt8.ofNat n.toNat:=by
 have:∀(l:ag) (s:ByteArray),(l.foldl (λr n=>r.push (UInt8.ofNat n.toNat)) s).data.toList=s.data.toList++l.map λn=>UInt8.ofNat n.toNat:=by
  intro l;induction l with
  | nil=>intro s;simp
  | cons a l b=>intro s;rw[i7,b];simp [ByteArray.push]
 rw[strOf,this];simp
theorem a15 {x:Int} (h:0<=x/\x<256):(UInt8.ofNat x.toNat==0)=decide (x=0):=by
 obtain⟨k,rfl⟩ :=aF h.1;have c:k<256:=ω
 have:(UInt8.ofNat k=0)↔k=0:=by
  rw[<-UInt8.toNat_inj];simp;omega
 rw[show(Int.toNat (k:Int))=k by simp];by_cases a:k=0
 · simp [a]
 have b:¬UInt8.ofNat k=0:=λh=>a (this.1 h);simp [a,b]
theorem a3r {l:ag} (h:∀x∈l,0<=x/\x<256):Lib.indexByte (strOf l).data.toList (Int.toNat 0).toUInt8=if nz l<l.length then(nz l:Int)else -1:=by
 rw[BQ];induction l with
 | nil=>simp [Lib.indexByte]
 | cons x l e=>
   have a:=e λy f=>h y (aJ _ f);have g:=a15 (h x (aI ..));rw[List.map_cons];unfold Lib.indexByte;rw[show(Int.toNat 0).toUInt8=0 from rfl]at a⊢;rw[a,g,a0C];by_cases d:x=0
   · simp [d]
   simp only [d,decide_false,Bool.false_eq_true,if_false,List.length_cons];by_cases c:nz l<l.length
   · have i:¬((nz l:Int)== -1)=true:=σ;have b:nz l+1<l.length+1:=ω;rw[aa c,a8 i,aa b];rfl
   have b:¬nz l+1<l.length+1:=ω;rw[a8 c,a8 b];simp
end Go.Proofs.YtgiimmkmjpbecaaGreat
