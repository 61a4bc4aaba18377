import Derived.Lib.MapLaws
import Derived.Lib.ValidLaws
import Derived.Lib.RuneCount
import Derived.Laws.RangeAny
import Derived.Test.YtfejhikpfhgbeaaGreatDoorMachineIdleR
set_option maxHeartbeats 25600000
set_option maxRecDepth 100000
set_option linter.all false
namespace Go.Proofs.YtfejhikpfhgbeaaGreatDoor
open Go.Proofs.Tryz
open Go.RowKit
open SP
section
open Go.Lib
def Sb:Nat->List UInt8->List Nat
 |0,_=>[]
 |n+1,l=>if l=[]then[]else(decodeL l).1::Sb n (l.drop (decodeL l).2)
def runesL(l:List UInt8):List Nat:=Sb l.length l
theorem jH(l:List UInt8):1<=(decodeL l).2:=by rw[decodeL_N];rcases decodeN_shape l.length (l.getD 0 0).toNat (l.getD 1 0).toNat (l.getD 2 0).toNat (l.getD 3 0).toNat with⟨_,e⟩|⟨_,_,_,_,e⟩|⟨_,_,_,_,_,_,e⟩|⟨_,_,_,_,_,_,_,e⟩|e<;>rw[e]<;>omega
theorem Ay:∀n,Sb n []=[]
 |0=>rfl
 |_+1=>rfl
theorem Cg:∀(n m:Nat)(l:List UInt8),l.length<=n->l.length<=m->Sb n l=Sb m l
 |0,m,l,h,_=>by have:l=[]:=List.eq_nil_of_length_eq_zero (by omega);subst this;rw[Ay,Ay]
 |n+1,0,l,_,h=>by have:l=[]:=List.eq_nil_of_length_eq_zero (by omega);subst this;rw[Ay,Ay]
 |n+1,m+1,l,h,h'=>by
  unfold Sb;split
  ·rfl
  ·have hp:=jH l;rw[Cg n m (l.drop (decodeL l).2) (by rw[List.length_drop];omega) (by rw[List.length_drop];omega)]
theorem uC:runesL []=[]:=rfl
theorem jI(l:List UInt8)(hne:l≠[]):runesL l=(decodeL l).1::runesL (l.drop (decodeL l).2):=by
 have hl:0<l.length:=List.length_pos_iff.2 hne;have hp:=jH l;unfold runesL;rw[Cg l.length (l.length-1+1) l (Nat.le_refl _) (by omega)];conv=>lhs;unfold Sb
 rw[if_neg hne,Cg (l.length-1) (l.drop (decodeL l).2).length _ (by rw[List.length_drop];omega) (Nat.le_refl _)]
theorem nL(l:List UInt8):(runesL l).length<=l.length:=by
 suffices∀n l,l.length<=n->(runesL l).length<=l.length from this _ l (Nat.le_refl _);intro n;induction n with
 |zero=>intro l h;have:l=[]:=List.eq_nil_of_length_eq_zero (by omega);subst this;simp[uC]
 |succ n ih=>
  intro l h;by_cases hne:l=[]
  ·subst hne;simp[uC]
  ·rw[jI l hne];have hp:=jH l;have hl:0<l.length:=List.length_pos_iff.2 hne;have:=ih (l.drop (decodeL l).2) (by rw[List.length_drop];omega);rw[List.length_drop]at this;simp only[List.length_cons];omega
def jk(r:Nat):Bool:=decide ((97<=r/\r<=122)\/(65<=r/\r<=90)\/(48<=r/\r<=57)\/r=45\/r=95\/r=46\/(161<=r/\r≠65533))
def pE(r:Nat):Nat:=if(65<=r/\r<=90)\/(192<=r/\r<=222/\r≠215)\/(913<=r/\r<=937/\r≠930)then r+32 else r
def dG(l:List UInt8):Bool:=(runesL l).all jk&&decide (1<=l.length)&&decide (l.length<=24)
def fF(l:List UInt8):List Nat:=(runesL l).map pE
def rF(l:List UInt8):List UInt8:=(fF l).flatMap fun r:Nat=>encodeRune (r:Int)
def scalar(r:Nat):Prop:=r<55296\/(57344<=r/\r<=1114111)
theorem wC(l:List UInt8):scalar (decodeL l).1:=by unfold scalar;rw[decodeL_N];have k0:=(l.getD 0 0).toNat_lt;have k1:=(l.getD 1 0).toNat_lt;rcases decodeN_shape l.length (l.getD 0 0).toNat (l.getD 1 0).toNat (l.getD 2 0).toNat (l.getD 3 0).toNat with⟨_,e⟩|⟨_,_,_,_,e⟩|⟨_,_,_,_,_,_,e⟩|⟨_,_,_,_,_,_,_,e⟩|e<;>rw[e]<;>dsimp only<;>omega
theorem xZ(l:List UInt8):∀r∈runesL l,scalar r:=by
 suffices∀n l,l.length<=n->∀r∈runesL l,scalar r from this _ l (Nat.le_refl _);intro n;induction n with
 |zero=>intro l h;have:l=[]:=List.eq_nil_of_length_eq_zero (by omega);subst this;simp[uC]
 |succ n ih=>
  intro l h;by_cases hne:l=[]
  ·subst hne;simp[uC]
  ·rw[jI l hne];have hp:=jH l;have hl:0<l.length:=List.length_pos_iff.2 hne;intro r hr;rcases List.mem_cons.1 hr with rfl|hr
   ·exact wC l
   ·exact ih _ (by rw[List.length_drop];omega) r hr
theorem Mh{r:Nat}(h:scalar r):scalar (pE r):=by unfold scalar pE at*;split<;>omega
theorem uD(l:List UInt8):∀r∈fF l,scalar r:=by intro r hr;obtain⟨q,hq,rfl⟩:=List.mem_map.1 hr;exact Mh (xZ l q hq)
theorem Az(r:Nat)(h:scalar r)(t:List UInt8):decodeL (encodeRune (r:Int)++t)=(r,(encodeRune (r:Int)).length):=by
 have hb:∀z:Int,0<=z->z<256->(z.toNat.toUInt8).toNat=z.toNat:=by intro z h0 h1;simp only[Nat.toUInt8,UInt8.toNat_ofNat'];omega
 rw[decodeL_N];unfold scalar at h;unfold encodeRune;rcases(show r<=127\/(128<=r/\r<=2047)\/((2048<=r/\r<55296)\/(57343<r/\r<=65535))\/(65536<=r/\r<=1114111)by omega)with h1|h1|h1|h1
 ·rw[encodeRuneZ_one (by omega) (by omega)];simp only[List.map_cons,List.map_nil,List.cons_append,List.nil_append,List.getD_cons_zero,List.length_cons,List.length_nil];rw[hb _ (by omega) (by omega)];unfold decodeN;rw[if_pos (by omega)];simp
 ·rw[encodeRuneZ_two (by omega) (by omega)];simp only[List.map_cons,List.map_nil,List.cons_append,List.nil_append,List.getD_cons_zero,List.getD_cons_succ,List.length_cons,List.length_nil];rw[hb _ (by omega) (by omega),hb _ (by omega) (by omega)];unfold decodeN;rw[if_neg (by omega),if_pos (by omega),if_pos (by omega)];refine Prod.ext ?_ rfl;dsimp only;omega
 ·rw[encodeRuneZ_three (by omega)];simp only[List.map_cons,List.map_nil,List.cons_append,List.nil_append,List.getD_cons_zero,List.getD_cons_succ,List.length_cons,List.length_nil];rw[hb _ (by omega) (by omega),hb _ (by omega) (by omega),hb _ (by omega) (by omega)];unfold decodeN;rw[if_neg (by omega),if_neg (by omega),if_pos (by omega),if_pos (by omega)];refine Prod.ext ?_ rfl;dsimp only;omega
 ·rw[encodeRuneZ_four (by omega) (by omega)];simp only[List.map_cons,List.map_nil,List.cons_append,List.nil_append,List.getD_cons_zero,List.getD_cons_succ,List.length_cons,List.length_nil];rw[hb _ (by omega) (by omega),hb _ (by omega) (by omega),hb _ (by omega) (by omega),hb _ (by omega) (by omega)];unfold decodeN;rw[if_neg (by omega),if_neg (by omega),if_neg (by omega),if_pos (by omega),if_pos (by omega)];refine Prod.ext ?_ rfl;dsimp only;omega
theorem I7(r:Int):encodeRune r≠[]:=by have:=runeCells_le r;rw[runeCells_length]at this;intro e;rw[e]at this;simp at this
theorem mg:∀xs:List Nat,(∀r∈xs,scalar r)->runesL (xs.flatMap fun r:Nat=>encodeRune (r:Int))=xs
 |[],_=>rfl
 |r::xs,h=>by rw[List.flatMap_cons,jI _ (by simp[I7]),Az r (h r (by simp)),List.drop_left,mg xs fun q hq=>h q (by simp[hq])]
theorem Wd(a b:List UInt8):rF a=rF b↔fF a=fF b:=by
 constructor
 ·intro h;have:=congrArg runesL h;unfold rF at this
  rwa [mg _ (uD a),mg _ (uD b)]at this
 ·intro h;unfold rF;rw[h]
theorem Gm(f:Int->Int)(g:Nat->Nat):∀(n:Nat)(l:List UInt8),l.length<=n->(∀r∈runesL l,f r=(g r:Int))->mapD f l=((runesL l).map g).flatMap fun r:Nat=>encodeRune (r:Int)
 |0,l,h,_=>by have:l=[]:=List.eq_nil_of_length_eq_zero (by omega);subst this;rfl
 |n+1,l,h,hf=>by
  by_cases hne:l=[]
  ·subst hne;rfl
  ·have hp:=jH l;have hl:0<l.length:=List.length_pos_iff.2 hne;rw[jI l hne]at hf
   rw[mapD_step f l hne,jI l hne,List.map_cons,List.flatMap_cons,hf _ (by simp),if_pos (by omega),
    Gm f g n (l.drop (decodeL l).2) (by rw[List.length_drop];omega) fun r hr=>hf r (by simp[hr])]
def sP(z:Int):Int:=if(65<=z/\z<=90)\/(192<=z/\z<=222/\z≠215)\/(913<=z/\z<=937/\z≠930)then z+32 else z
theorem J8(r:Nat):sP (r:Int)=(pE r:Int):=by
 unfold sP pE;by_cases h:(65<=r/\r<=90)\/(192<=r/\r<=222/\r≠215)\/(913<=r/\r<=937/\r≠930)
 ·rw[if_pos h,if_pos (by omega)];omega
 ·rw[if_neg h,if_neg (by omega)]
theorem J9(l:List UInt8):mapD sP l=rF l:=Gm sP pE _ l (Nat.le_refl _) fun r _=>J8 r
def fT(n b0 b1 b2 b3:Nat):Option (Nat×Nat):=
 if b0<128 then some (b0,1)
 else if 194<=b0/\b0<224 then
  (if n<2\/b1<128\/192<=b1 then none else some ((b0-192)*64+b1-128,2))
 else if 224<=b0/\b0<240 then
  (if n<3\/b1<128\/192<=b1\/b2<128\/192<=b2 then none
   else if((b0-224)*64+b1-128)*64+b2-128<2048\/(55296<=((b0-224)*64+b1-128)*64+b2-128/\((b0-224)*64+b1-128)*64+b2-128<57344)then none
   else some (((b0-224)*64+b1-128)*64+b2-128,3))
 else if 240<=b0/\b0<245 then
  (if n<4\/b1<128\/192<=b1\/b2<128\/192<=b2\/b3<128\/192<=b3 then none
   else if(((b0-240)*64+b1-128)*64+b2-128)*64+b3-128<65536\/1114111<(((b0-240)*64+b1-128)*64+b2-128)*64+b3-128 then none
   else some ((((b0-240)*64+b1-128)*64+b2-128)*64+b3-128,4))
 else none
theorem We(n b0 b1 b2 b3:Nat)(_:1<=n)(h0:b0<256)(h1:b1<256)(h2:b2<256)(h3:b3<256):
  fT n b0 b1 b2 b3=if(decodeN n b0 b1 b2 b3).1=65533/\(decodeN n b0 b1 b2 b3).2=1 then none else some (decodeN n b0 b1 b2 b3):=by
 rcases decodeN_shape n b0 b1 b2 b3 with⟨_,e⟩|⟨_,_,_,_,e⟩|⟨_,_,_,_,_,_,e⟩|⟨_,_,_,_,_,_,_,e⟩|e
 ·rw[e,if_neg (fun h=>by have:=h.1;dsimp only at this;omega)];unfold fT;rw[if_pos (by omega)]
 ·rw[e,if_neg (fun h=>by have:=h.2;dsimp only at this;omega)];unfold fT;rw[if_neg (by omega),if_pos (by omega),if_neg (by omega)];congr 2;omega
 ·rw[e,if_neg (fun h=>by have:=h.2;dsimp only at this;omega)];unfold fT;rw[if_neg (by omega),if_neg (by omega),if_pos (by omega),if_neg (by omega),if_neg (by omega)];congr 2;omega
 ·rw[e,if_neg (fun h=>by have:=h.2;dsimp only at this;omega)];unfold fT;rw[if_neg (by omega),if_neg (by omega),if_neg (by omega),if_pos (by omega),if_neg (by omega),if_neg (by omega)];congr 2;omega
 ·rw[e,if_pos ⟨rfl,rfl⟩];unfold fT;unfold decodeN at e;by_cases c0:b0<128
  ·rw[if_pos c0]at e;simp only[Prod.mk.injEq]at e;omega
  rw[if_neg c0];rw[if_neg c0]at e;by_cases c1:194<=b0/\b0<224
  ·rw[if_pos c1];by_cases c:n<2\/b1<128\/192<=b1
   ·rw[if_pos c]
   ·exfalso;rw[if_pos (by omega),if_pos (by omega)]at e;simp only[Prod.mk.injEq]at e;omega
  rw[if_neg c1];by_cases c2:224<=b0/\b0<240
  ·rw[if_pos c2];by_cases c:n<3\/b1<128\/192<=b1\/b2<128\/192<=b2
   ·rw[if_pos c]
   ·rw[if_neg c];by_cases d:((b0-224)*64+b1-128)*64+b2-128<2048\/(55296<=((b0-224)*64+b1-128)*64+b2-128/\((b0-224)*64+b1-128)*64+b2-128<57344)
    ·rw[if_pos d]
    ·exfalso;rw[if_neg (by omega),if_pos (by omega),if_pos (by omega)]at e;simp only[Prod.mk.injEq]at e;omega
  rw[if_neg c2];by_cases c3:240<=b0/\b0<245
  ·rw[if_pos c3];by_cases c:n<4\/b1<128\/192<=b1\/b2<128\/192<=b2\/b3<128\/192<=b3
   ·rw[if_pos c]
   ·rw[if_neg c];by_cases d:(((b0-240)*64+b1-128)*64+b2-128)*64+b3-128<65536\/1114111<(((b0-240)*64+b1-128)*64+b2-128)*64+b3-128
    ·rw[if_pos d]
    ·exfalso;rw[if_neg (by omega),if_neg (by omega),if_pos (by omega),if_pos (by omega)]at e;simp only[Prod.mk.injEq]at e;omega
  rw[if_neg c3]
end
section
variable{w:aF}
theorem Pk(r:Nat)(hr:r<=1114111):Calls prog 207 #[.int .i32 (r:Int)] w (bN (.bool (jk r)) w):=by
 go_enter func207,ntmps207;go_wp2;all_goals go_ret
 all_goals refine⟨congrArg Ending.returned (congrArg Value.bool ?_),rfl⟩
 all_goals
  show _=decide _;rw[Bool.eq_iff_iff];try simp only[xM,bne_iff_ne,Ec,beq_iff_eq,Bool.false_eq_true,ne_eq,true_iff,false_iff]at*
  omega
theorem Wh(r:Nat)(hr:r<=1114111):Calls prog 173 #[.int .i32 (r:Int)] w (bN (.int .i32 (sP (r:Int))) w):=by
 have hwr:∀z:Int,0<=z->z<=1114143->IntKind.i32.wrap z=z:=by intro z h0 h1;rw[IntKind.wrap_i32];omega
 have ag9:=hwr ((r:Int)+32) (by omega) (by omega);clear hwr;go_enter func173,ntmps173;go_wp2;all_goals go_ret
 all_goals refine⟨congrArg Ending.returned (congrArg (Value.int .i32) ?_),rfl⟩
 all_goals
  unfold sP;simp only[bne_iff_ne,bne_eq_false_iff_eq,ne_eq]at*;split<;>first|omega
theorem Mi(r:Nat)(hr:r<=1114111):Calls prog 183 #[(r:Int)] w (bN (.bool (jk r)) w):=by
 go_enter func183,ntmps183;go_wp2;all_goals go_ret
 all_goals refine⟨congrArg Ending.returned (congrArg Value.bool ?_),rfl⟩
 all_goals
  show _=decide _;rw[Bool.eq_iff_iff];try simp only[xM,Bool.or_eq_true,bne_iff_ne,beq_iff_eq,ne_eq,true_iff]at*
  omega
theorem Sc(r:Nat)(hr:r<=1114111):Calls prog 184 #[(r:Int)] w (bN (.int .i64 (pE r:Int)) w):=by
 have ag9:IntKind.i64.wrap ((r:Int)+32)=(r:Int)+32:=by rw[gB];omega
 rw[<-J8];go_enter func184,ntmps184;go_wp2;all_goals go_ret
 all_goals refine⟨congrArg Ending.returned (congrArg (Value.int .i64) ?_),rfl⟩
 all_goals
  unfold sP;simp only[bne_iff_ne,bne_eq_false_iff_eq,ne_eq]at*;split<;>first|omega
theorem x8(s:ByteArray)(pos:Nat):(Utf8.decode s pos).1<=1114111:=by have:=wC (s.data.toList.drop pos);rw[Lib.decodeL_drop]at this;unfold scalar at this;omega
theorem Ci(s:ByteArray)(pos:Nat)(hp:pos<s.size):runesL (s.data.toList.drop pos)=(Utf8.decode s pos).1::runesL (s.data.toList.drop (pos+(Utf8.decode s pos).2)):=by have hl:s.data.toList.length=s.size:=(Lib.size_eq s).symm;rw[jI _ (by intro e;have:=congrArg List.length e;rw[List.length_drop]at this;simp only[List.length_nil]at this;omega),Lib.decodeL_drop,List.drop_drop]
theorem uE(s:ByteArray)(pos:Nat)(hp:¬pos<s.size):runesL (s.data.toList.drop pos)=[]:=by have hl:s.data.toList.length=s.size:=(Lib.size_eq s).symm;rw[List.drop_eq_nil_of_le (by omega)];rfl
theorem uF(s:ByteArray)(hs:s.size<=9223372036854775807):Calls prog 171 #[.string s] w fun e w'=>e=.returned (.bool (dG s.data.toList))/\∃pos,w'=w.iter s pos:=by
 have hl:s.data.toList.length=s.size:=(Lib.size_eq s).symm;go_enter func171,ntmps171;go_wp2;go_loopw[4] (fun _ w'=>∃pos:Nat,w'=w.iter s pos/\(runesL s.data.toList).all jk=(runesL (s.data.toList.drop pos)).all jk) (fun _ w'=>s.size-w'.iterPos w.heap.size);case atStart=>exact⟨0,rfl,rfl⟩
 case round=>
  obtain⟨pos,rfl,hall⟩:=hrel;by_cases hp:pos<s.size
  ·have hnx:∀ty,(Instr.next (.pointer (some ⟨w.heap.size,0,none⟩)) true ty).run prog (w.iter s pos)=_:=fun ty=>run_next_any w s pos ty hp;have hwd:=Lib.decode_width_pos s pos hp;have hlet:=Pk (w:=w.iter s (pos+(Utf8.decode s pos).2)) (Utf8.decode s pos).1 (x8 s pos);rw[Ci s pos hp,List.all_cons]at hall;go_wp2_with fail;cases hb:jk (Utf8.decode s pos).1 with
   |true=>
    rw[hb]at hlet hall;rw[Bool.true_and]at hall;refine hlet.mono ?_;rintro e1 w1⟨rfl,rfl⟩;clear hlet;go_wp2;go_roundw;case rel=>exact⟨_,rfl,hall⟩
    case measure=>simp;omega
   |false=>rw[hb]at hlet hall;rw[Bool.false_and]at hall;refine hlet.mono ?_;rintro e1 w1⟨rfl,rfl⟩;clear hlet;go_wp2;go_ret;refine⟨congrArg Ending.returned (congrArg Value.bool ?_),_,rfl⟩;unfold dG;rw[hall];rfl
  ·have hnx:∀ty,(Instr.next (.pointer (some ⟨w.heap.size,0,none⟩)) true ty).run prog (w.iter s pos)=_:=fun ty=>run_next_end w s pos ty hp;rw[uE s pos hp,List.all_nil]at hall;go_wp2;all_goals go_ret
   all_goals refine⟨congrArg Ending.returned (congrArg Value.bool ?_),_,rfl⟩
   all_goals
    unfold dG;rw[hall,Bool.true_and,hl];rw[Bool.eq_iff_iff];simp only[xM,Bt,Bool.false_eq_true,false_iff];omega
end
section
open Go.Lib
def mq(l:List UInt8):List UInt8×List UInt8×Bool:=cut l [45]
def yg(l:List UInt8):Nat:=if l=[42]then 0 else nC 5 (mq l).1
def yh(l:List UInt8):Nat:=if l=[42]then 65535 else if(mq l).2.2 then nC 5 (mq l).2.1 else nC 5 (mq l).1
def wG(l:List UInt8):Bool:=decide (l=[42])||(fH 5 (mq l).1&&(!(mq l).2.2||fH 5 (mq l).2.1))
structure Ru where
 st:List UInt8
 cls:Int
 first:Int
 last:Int
 gK:Int
def AR(r:Ru):Bool:=(decide (r.st=[])||dG r.st)&&decide (-1<=r.cls/\r.cls<=7/\0<=r.first/\r.first<=r.last/\r.last<=65535/\0<=r.gK/\r.gK<32)
def NF:Ru:=⟨[],0,0,0,0⟩
def Wz(a b c d:List UInt8):Ru:=⟨if a=[42]then[]else a,if b=[42]then-1 else(nC 5 b:Nat),(yg c:Nat),(yh c:Nat),(nC 5 d.tail:Nat)⟩
def ES(a b c d:List UInt8):Bool:=!decide (a=[])&&(decide (b=[42])||fH 5 b)&&wG c&&decide (d.head?=some 62)&&fH 5 d.tail
def jY(l:List UInt8):Ru×Int:=
 match yc 32 l with
 |[a,b,c,d]=>if ES a b c d then(if AR (Wz a b c d)then(Wz a b c d,0)else(NF,1))else(NF,8)
 |_=>(NF,8)
end
end Go.Proofs.YtfejhikpfhgbeaaGreatDoor
