/- Each operation of the abstract machine is sound, fifth part: -/
import Derived.Test.YtfgbpngakkhdcaaGreatDoorAmOps4
import Derived.IntWalk
import Derived.Laws.IdiomStrings
open Int renaming eq_ofNat_of_zero_le->acJ
open List renaming getElem?_map->abo,getElem?_replicate->acK,getElem?_set->abK,length_cons->aaH,length_nil->abL,length_replicate->acL,length_set->abM,map_eq_nil_iff->ab1
open Nat renaming add_mul->abx,le_refl->aa0,le_trans->abd,mul_le_mul_right->acF
open Option renaming map_some->aa1
set_option linter.all false
namespace Go.Am
variable [Kn]
section
variable {P:Program} {g:Gh} {bs:List ad} {w:World}
theorem KZ (zero:Array Value) (n sz i j:Nat) (hz:zero.size=sz) (hi:i<n) (hj:j<sz):((Array.range (n*sz)).map (zero[· %zero.size]!))[i*sz+j]?=zero[j]?:=by
 have hlt:i*sz+j<n*sz:=by have:(i+1)*sz<=n*sz:=acF _ hi;rw [abx] at this;omega
 have hmod:(i*sz+j)%zero.size=j:=by rw [hz,Nat.add_comm,Nat.add_mul_mod_self_right,Nat.mod_eq_of_lt hj]
 have hjz:j<zero.size:=by omega
 simp [hlt,hmod,hjz]
def pQ (g:Gh) (w:World) (sz:Nat) (es:List AV) (c:Array Value):Prop:=
 ∀(i j:Nat) (e x:AV) (v:Value),es[i]?=some e->e.cells[j]?=some x->c[i*sz+j]?=some v->Rd g w x v∧v.oneCell'=true
def vq (sz:Nat) (es:List AV):Prop:= ∀(i:Nat) (e:AV),es[i]?=some e->e.plain=true∧e.cells.length=sz
theorem Dy {agg:Bool} {n:Nat} {cs:List AV} {e:AV} (h:sV agg n cs=some e):e.cells=cs∧cs.length=n∧e.plain=true∧eS cs=true:=by
 unfold sV at h;split at h
 ·rename_i hc;obtain ⟨h1,h2,h3⟩:=hc;split at h
  ·cases h;exact ⟨rfl,h1,by simpa only [AV.plain] using h2,h3⟩
  ·split at h
   ·rename_i v;split at h
    ·cases h
    ·rename_i hne;cases h;refine ⟨?_,h1,by simpa [ai] using h2,h3⟩;cases e <;> first | rfl | exact absurd rfl (hne _)
   ·cases h
 ·cases h
theorem Dz {v:Value} {agg:Bool} {sz:Nat} {ze:AV} (h:sV agg sz (gA v).cells=some ze) (n m:Nat) (hnm:n<=m):
  pQ g w sz (List.replicate n ze) ((Array.range (m*sz)).map (v.cells[· %v.cells.size]!))∧vq sz (List.replicate n ze):=by
 obtain ⟨h1,h2,h3,h4⟩:=Dy h;obtain ⟨k1,k2⟩:=pb (g:=g) (w:=w) v;refine ⟨fun i j e x u he hx hu=> ?_,fun i e he=> ?_⟩
 ·have hi:=ah he;rw [acL] at hi;rw [acK,if_pos hi] at he;cases he;rw [h1] at hx;have hj:=ah hx;rw [h2] at hj;rw [KZ v.cells m sz i j (by omega) (by omega) hj] at hu;have:=k2 j x u hx hu;exact ⟨this,this.one (kH h4 hx)⟩
 ·have hi:=ah he;rw [acL] at hi;rw [acK,if_pos hi] at he;cases he;exact ⟨h3,by rw [h1,h2]⟩
theorem ID {sz:Nat} {ps:List (Nat×AV)} {qs:List (Nat×Value)} (hps:dy g w ps qs):
  ∀(es:List AV) (c:Array Value) (es':List AV),c.size=es.length*sz->pQ g w sz es c->vq sz es->lG es sz ps=some es'->
   ∃c',Instr.fill (fun i=>some (i*sz,sz)) c qs=some c'∧c'.size=es'.length*sz∧es'.length=es.length∧pQ g w sz es' c'∧vq sz es':=by
 induction hps with
 | nil=>intro es c es' hn h hok hf;cases hf;exact ⟨c,rfl,hn,rfl,h,hok⟩
 | @cons p q ps qs hpq _ ih=>
  intro es c es' hn h hok hf;obtain ⟨i,x⟩:=p;obtain ⟨i',v⟩:=q;obtain ⟨rfl,hx⟩:=hpq;simp only [lG] at hf;split at hf
  ·rename_i hc;obtain ⟨h1,h2,h3,h4⟩:=hc;obtain ⟨k1,k2⟩:=Rd.cells hx (fT h4);simp only at hx h1 h2 h3 h4 k1 k2 hf;have hin:(i+1)*sz<=es.length*sz:=acF _ h1;rw [abx] at hin
   obtain ⟨c',q1,q2,q3,q4,q5⟩:=ih (es.set i x) (v.cells.zipIdx.foldl (fun cs (p:Value×Nat)=>cs.setIfInBounds (i*sz+p.2) p.1) c) es' (by rw [pP,hn,abM])
    (fun i2 j e y u he hy hu=>by
     rw [abK] at he;rw [Dv] at hu;by_cases e2:i=i2
     ·subst e2;rw [if_pos rfl,if_pos h1] at he;cases he;have hj:=ah hy;rw [if_pos (by omega)] at hu;rw [show i*sz+j-i*sz=j by omega] at hu;have:=k2 j y u hy hu;exact ⟨this,this.one (kH h4 hy)⟩
     ·rw [if_neg e2] at he;have hj:=ah hy;rw [(hok i2 e he).2] at hj;rw [if_neg] at hu
      ·exact h i2 j e y u he hy hu
      ·rintro ⟨a1,a2,a3⟩;rcases Nat.lt_or_gt_of_ne e2 with hlt | hlt
       ·have:(i+1)*sz<=i2*sz:=acF _ hlt;rw [abx] at this;omega
       ·have:(i2+1)*sz<=i*sz:=acF _ hlt;rw [abx] at this;omega)
    (fun i2 e he=>by
     rw [abK] at he;by_cases e2:i=i2
     ·subst e2;rw [if_pos rfl,if_pos h1] at he;cases he;exact ⟨h3,h2⟩
     ·rw [if_neg e2] at he;exact hok i2 e he) hf
   refine ⟨c',?_,q2,by rw [q3,abM],q4,q5⟩;simp only [Instr.fill];rw [if_neg (by simp;omega)];exact q1
  ·cases hf
theorem lS {c:av} (hc:bP c P) (hm:Mem g bs w) {t:TypeId} {len id:Nat} {ps:List (Nat×AV)} {qs:Array (Nat×Value)} {r:AV} {e:c9} (hps:dy g w ps qs.toList)
  (h:iH c (c.ti t) len ps id=some (r,e)) {bs':List ad} (he:e.on bs id=some bs'):
  cT ((do pure (Next.value (<-Instr.buildSlice t len qs)):Sem Next).run P w) g w bs' r:=by
 unfold iH at h;split at h
 ·rename_i i hti;obtain ⟨info,hi⟩:=bG (hc.ty t i hti);split at h
  ·rename_i el hdesc;split at h
   ·rename_i j hj;obtain ⟨jinfo,hj'⟩:=bG (hc.ty el j hj);split at h
    ·rename_i z hz;have hzz:=hj'.zero;rw [hz] at hzz;cases hv:jinfo.zero with
     | none=>rw [hv] at hzz;cases hzz
     | some v=>
      rw [hv] at hzz;simp only [aa1,Option.some.injEq] at hzz;subst hzz;split at h
      ·rename_i hl0;subst hl0;split at h
       ·cases h;cases he;cases hq:qs.toList with
        | cons q l=>rw [hq] at hps;cases hps
        | nil=>
         have hq':qs= #[]:=by rw [<-Array.toList_inj,hq]
         subst hq';refine Bf (w':=w.alloc (.cells #[] el)) (v:= .slice (some ⟨w.heap.size,0,none⟩) 0 0) hm ?_ (fun b hb=>cr w _ hb) (by simp) rfl rfl rfl (.cv _ _ (fun _ h=>by cases h;rfl));have r0:Array.range 0= #[]:=rfl;simp [Instr.buildSlice,run_underlying (hdesc▸hi.fq),sizeOf,typeInfo,hj'.info,r0,Instr.fill,newRow]
       ·cases h
      split at h
      ·rename_i hlen0 hlen;split at h
       ·rename_i ze hze;cases hf:lG (List.replicate len ze) j.size ps with
        | none=>rw [hf] at h;cases h
        | some es=>
         rw [hf] at h;cases h;obtain ⟨k1,k2⟩:=Dz (g:=g) (w:=w) hze len len (aa0 _);obtain ⟨c',q1,q2,q3,q4,q5⟩:=ID hps _ ((Array.range (len*j.size)).map (v.cells[· %v.cells.size]!)) _ (by simp) k1 k2 hf;rw [acL] at q3;subst q3;refine xE hm he (c:=c') (ty:=el) (fz:=(0,0)) (cap:=es.length) (w':=w.alloc (.cells c' el)) ?_ (fun b hb=>cr w _ hb) (by simp) (dp w _) rfl rfl rfl (fun o _=>by simp) q2 (aa0 _) (by omega) q5 q4
         have hnot: ¬ es.length*j.size>2^24:=by
          have:(2:Nat)^24=16777216:=by decide
          unfold nI at hlen;omega
         by_cases h0:es.length*j.size=0
         ·have r0:Array.range 0= #[]:=rfl;rw [h0,r0] at q1;simp only [Array.map_empty] at q1;simp [Instr.buildSlice,run_underlying (hdesc▸hi.fq),sizeOf,typeInfo,hj'.info,hj'.size,h0,r0,q1,newRow]
         ·simp [Instr.buildSlice,run_underlying (hdesc▸hi.fq),sizeOf,typeInfo,hj'.info,hj'.size,h0,hnot,zeroValue,hv,q1,newRow]
       ·cases h
      ·cases h
    ·cases h
   ·cases h
  ·cases h
 ·cases h
theorem vr {c:av} (hc:bP c P) (hm:Mem g bs w) {t:TypeId} {id:Nat} {x y r:AV} {u v:Value} {e:c9} (hx:Rd g w x u) (hy:Rd g w y v)
  (h:jJ c (c.ti t) x y id=some (r,e)) {bs':List ad} (he:e.on bs id=some bs'):
  cT ((do pure (Next.value (<-Instr.makeSlice t u v)):Sem Next).run P w) g w bs' r:=by
 unfold jJ at h;split at h
 ·rename_i i kl l km m hti;obtain ⟨info,hi⟩:=bG (hc.ty t i hti);obtain rfl:=hx.aJ;obtain rfl:=hy.aJ;split at h
  ·rename_i el hdesc;split at h
   ·rename_i j hj;obtain ⟨jinfo,hj'⟩:=bG (hc.ty el j hj);split at h
    ·rename_i z hz;have hzz:=hj'.zero;rw [hz] at hzz;cases hv:jinfo.zero with
     | none=>rw [hv] at hzz;cases hzz
     | some v=>
      rw [hv] at hzz;simp only [aa1,Option.some.injEq] at hzz;subst hzz;split at h
      ·rename_i hlen;obtain ⟨hl0,hlm,hlim⟩:=hlen;split at h
       ·rename_i ze hze;obtain ⟨n,rfl⟩:=acJ hl0;obtain ⟨k,rfl⟩:=acJ (Int.le_trans hl0 hlm);have hnk:n<=k:=by omega
        split at h
        ·rename_i hk0;cases h;cases he;obtain rfl:k=0:=by omega
         obtain rfl:n=0:=by omega
         refine Bf (w':=w.alloc (.cells #[] el)) (v:= .slice (some ⟨w.heap.size,0,none⟩) 0 0) hm ?_ (fun b hb=>cr w _ hb) (by simp) rfl rfl rfl (.cv _ _ (fun _ h=>by cases h;rfl));have r0:Array.range 0= #[]:=rfl;simp [Instr.makeSlice,run_underlying (hdesc▸hi.fq),asInt,asIntOf,sizeOf,typeInfo,hj'.info,IntWalk.i64_in,r0,newRow]
        rename_i hk0';cases h;obtain ⟨k1,k2⟩:=Dz (g:=g) (w:=w) hze n k hnk
        have hkb:k*(j.bytes+1)<=bX:=by
         have:((k*(j.bytes+1):Nat):Int)<=(bX:Int):=by push_cast;exact hlim
         omega
        have hk1:k<=bX:=abd (Nat.le_mul_of_pos_right k (by omega)) hkb;have hk2:j.bytes*k<=bX:=by rw [Nat.mul_comm];exact abd (Nat.mul_le_mul_left k (by omega)) hkb
        unfold bX at hk1 hk2;have hwl:IntKind.i64.wrap (n:Int)=n:=IntWalk.i64_in _ (by omega);have hwk:IntKind.i64.wrap (k:Int)=k:=IntWalk.i64_in _ (by omega)
        have key:=xE hm (es:=List.replicate n ze) (sz:=j.size) (c:=(Array.range (k*j.size)).map (v.cells[· %v.cells.size]!)) (ty:=el) (fz:=(0,0)) (cap:=k) (w':=w.alloc (.cells ((Array.range (k*j.size)).map (v.cells[· %v.cells.size]!)) el))
         (r:=(do pure (Next.value (<-Instr.makeSlice t (.int kl (n:Int)) (.int km (k:Int)))):Sem Next).run P w) (by simpa using he) ?_ (fun b hb=>cr w _ hb) (by simp) (dp w _) rfl rfl rfl (fun o _=>by simp) (by simp) (by simpa using hnk) (by omega) k2 k1
        ·simpa using key
        ·have hb: ¬ (281474976710656:Int)<(j.bytes:Int)*(k:Int):=by
          have h1:((j.bytes*k:Nat):Int)<=70368744177664:=by omega
          rw [Int.natCast_mul] at h1;omega
         have hk0: ¬ (k:Int)<0:=by omega
         have hn0: ¬ (n:Int)<0:=by omega
         have hkn: ¬ (k:Int)<(n:Int):=by omega
         by_cases h0:k*j.size=0
         ·have r0:Array.range 0= #[]:=rfl;simp [Instr.makeSlice,run_underlying (hdesc▸hi.fq),asInt,asIntOf,sizeOf,typeInfo,hj'.info,hj'.size,hj'.bytes,hwl,hwk,hn0,hkn,h0,r0,newRow];intro hbad;rcases hbad with h | h
          ·exact absurd h hk0
          ·exact absurd h hb
         ·simp [Instr.makeSlice,run_underlying (hdesc▸hi.fq),asInt,asIntOf,sizeOf,typeInfo,hj'.info,hj'.size,hj'.bytes,hwl,hwk,hn0,hkn,h0,zeroValue,hv,newRow];intro hbad;rcases hbad with h | h
          ·exact absurd h hk0
          ·exact absurd h hb
       ·cases h
      ·cases h
    ·cases h
   ·cases h
  ·cases h
 ·cases h
theorem su: ∀{es:List AV} {s:List UInt8},bytesOf es=some s-> ∃ns:List Int,es=ns.map (AV.int .u8)∧s=ns.map fun n=>UInt8.ofNat n.toNat
 | [],s,h=>by cases h;exact ⟨[],rfl,rfl⟩
 | v::r,s,h=>by
  simp only [bytesOf] at h;split at h
  ·rename_i c l hb hl;cases h;obtain ⟨ns,h1,h2⟩:=su hl;unfold byteOf at hb;split at hb
   ·rename_i n;cases hb;exact ⟨n::ns,by rw [h1];rfl,by rw [h2];rfl⟩
   ·cases hb
  ·cases h
theorem xG: ∀(ns:List Int) (l:List UInt8),ns.foldl (fun r n=>r.push (UInt8.ofNat n.toNat)) (ByteArray.mk l.toArray)=ByteArray.mk (l++ns.map fun n=>UInt8.ofNat n.toNat).toArray
 | [],l=>by simp
 | n::ns,l=>by
  have:(ByteArray.mk l.toArray).push (UInt8.ofNat n.toNat)=ByteArray.mk (l++ [UInt8.ofNat n.toNat]).toArray:=by apply ByteArray.ext;simp [ByteArray.data_push]
  rw [List.foldl_cons,this,xG ns];simp
theorem Bg {sz:Nat} {es:List AV} {a:Option Addr} {cap:Nat} (hel:df g w sz es a cap) {s:List UInt8} (h:bytesOf es=some s):(Conv.bytesToString (.slice a es.length cap)).run P w= .ok (.string ⟨s.toArray⟩) w:=by
 obtain ⟨ns,rfl,rfl⟩:=su h;cases a with
 | none=>have:=(hel.nil rfl).1;simp only [ab1] at this;subst this;rfl
 | some a=>
  have hld:(loadCells a (ns.map (AV.int .u8)).length).run P w= .ok (ns.map (Value.int .u8)).toArray w:=by
   have:=run_loadCells_list (P:=P) w a (ns.map (Value.int .u8)) (fun j v hv=>by
    have hj:=ah hv;rw [List.length_map] at hj
    have hne:ns.map (AV.int .u8)≠ []:=by intro h0;rw [ab1] at h0;subst h0;simp at hj
    obtain ⟨b,off,ha,hcs⟩:=hel.at_ hne;cases ha;have hej:(ns.map (AV.int .u8))[j]?=some (.int .u8 ns[j]):=by simp [hj]
    have hsz:=(hel.ok j _ hej).2;simp only [AV.cells,aaH,abL] at hsz;obtain ⟨u,hu,ru,_⟩:=hcs j _ hej 0 (.int .u8 ns[j]) rfl;obtain rfl:=ru.aJ;rw [addr_add];rw [abo,List.getElem?_eq_getElem hj] at hv;cases hv;rw [<-hu,<-hsz];simp)
   simpa using this
  rw [run_bytesToString w a _ cap ns hld];have:=xG ns [];rw [show (ByteArray.mk ([]:List UInt8).toArray)=ByteArray.empty from rfl] at this;rw [this];rfl
theorem DA (hm:Mem g bs w) {src dst el:TypeId} {s:List UInt8} {id:Nat} {bs':List ad} (hs:P.underlying src=some .string) (hd:P.underlying dst=some (.slice el)) (he:P.underlying el=some (.int .u8)) (hne:s≠ [])
  (hb:(c9.new (.sl ⟨false,some el,none⟩ 1 (s.map ak))).on bs id=some bs'):cT ((do pure (Next.value (<-convert src dst (.string ⟨s.toArray⟩))):Sem Next).run P w) g w bs' (.ax id s.length):=by
 have hsize:(ByteArray.mk s.toArray).size=s.length:=by show s.toArray.size=_;simp
 have hrun:=run_bytes_of_string (P:=P) w src dst el ⟨s.toArray⟩ hs hd he;rw [hsize] at hrun;generalize hcapd:grownCap w s.length 0 el=cap at hrun
 have hcap:s.length<=cap:=by rw [<-hcapd];show s.length<=(Question.appendCap s.length 0 el).cut _;show s.length<=s.length+_;omega
 have hcs:(bytesRow ⟨s.toArray⟩ cap).size=cap:=by unfold bytesRow;simp [hsize];omega
 have hget: ∀(i:Nat) (b:UInt8),s[i]?=some b->(bytesRow ⟨s.toArray⟩ cap)[i]?=some (Value.int .u8 b.toNat):=fun i b h=>by
  have hi:=ah h;unfold bytesRow;rw [Array.getElem?_append_left (by simp;omega)];simp [h]
 have key:=xE hm (es:=s.map ak) (sz:=1) (c:=bytesRow ⟨s.toArray⟩ cap) (ty:=el) (fz:=((bytesRow ⟨s.toArray⟩ cap).size,(bytesRow ⟨s.toArray⟩ cap).size+1)) (cap:=cap) (w':=(w.drew.alloc (.cells (bytesRow ⟨s.toArray⟩ cap) el ((bytesRow ⟨s.toArray⟩ cap).size,(bytesRow ⟨s.toArray⟩ cap).size+1))))
  (r:=(do pure (Next.value (<-convert src dst (.string ⟨s.toArray⟩))):Sem Next).run P w) hb ?_ (fun b hb=>cr w.drew _ hb) (by simp) (dp w.drew _) rfl rfl rfl (fun o ho=>by simp only;omega) (by rw [hcs];simp) (by simpa using hcap) (by have:=List.length_pos_iff.2 hne;omega)
  (fun i e he=>by
   rw [abo] at he;cases hi:s[i]? with
   | none=>rw [hi] at he;cases he
   | some b=>rw [hi] at he;cases he;exact ⟨rfl,rfl⟩)
  (fun i j e x v he hx hv=>by
   rw [abo] at he;cases hi:s[i]? with
   | none=>rw [hi] at he;cases he
   | some b=>
    rw [hi] at he;cases he;have hj:=ah hx;simp only [ak,AV.cells,aaH,abL] at hj;have hj0:j=0:=by omega
    subst hj0;simp only [ak,AV.cells,List.getElem?_cons_zero,Option.some.injEq] at hx;subst hx;rw [Nat.mul_one,Nat.add_zero,hget i b hi] at hv;cases hv;exact ⟨.int _ _,rfl⟩)
 ·simpa using key
 ·rw [aT P w _ _ _ hrun];simp
theorem yr (hm:Mem g bs w) {src dst el:TypeId} (hs:P.underlying src=some .string) (hd:P.underlying dst=some (.slice el)) (he:P.underlying el=some (.int .u8)):
  cT ((do pure (Next.value (<-convert src dst (.string ⟨([]:List UInt8).toArray⟩))):Sem Next).run P w) g w bs (.ag (some false) 1 []):=by
 have hrun:=run_bytes_of_string (P:=P) w src dst el ⟨([]:List UInt8).toArray⟩ hs hd he;have hsize:(ByteArray.mk ([]:List UInt8).toArray).size=0:=rfl;rw [hsize] at hrun;generalize hcapd:grownCap w 0 0 el=cap at hrun;refine Bf (w':=(w.drew.alloc (.cells (bytesRow ⟨([]:List UInt8).toArray⟩ cap) el ((bytesRow ⟨([]:List UInt8).toArray⟩ cap).size,(bytesRow ⟨([]:List UInt8).toArray⟩ cap).size+1)))) hm (aT P w _ _ _ hrun) (fun b hb=>cr w.drew _ hb) (by simp) rfl rfl rfl ?_;exact .ag (some false) 1 [] (some ⟨w.heap.size,0,none⟩) cap 0 0 (fun _ _=>undef) (fun x hx=>by cases hx;rfl) (fun h=>by cases h) (Nat.zero_le _) (fun h=>absurd rfl h) (fun i e h=>by simp at h) (fun i j e x h=>by simp at h) (fun i j e x h=>by simp at h)
theorem DB {e:TypeId} (hc:P.cellsOf e≠0) (count n:Nat) (hn:n<=count):liesAt P P.depth e count 0 e n=true:=by have hd:P.depth=(2*(P.types.size+Made.depth)+1)+1:=rfl;rw [hd];simp only [liesAt,Bool.or_eq_true];left;rw [hd];simp [rowAt,hc,hn,sameLayout]
theorem xH {b o:Nat} {c:Array Value} {ty:TypeId} {fz:Nat×Nat} (h:w.heap[b]?=some (.cells c ty fz)):(Conv.seenAt ⟨b,o,none⟩).run P w= .ok ⟨b,o,none⟩ w:=by simp [Conv.seenAt,viewAt,World.shape?,h]
theorem Bh {src dst t:TypeId} {i:TypeInfo} {b o:Nat} {c:Array Value} {ty:TypeId} {fz:Nat×Nat} (h:w.heap[b]?=some (.cells c ty fz)) (hs:P.underlying src=some (.pointer t)) (hd:P.underlying dst=some .unsafePointer)
  (hi:P.info? t=some i) (hz:i.size≠0) (ho:o<c.size):(convert src dst (.pointer (some ⟨b,o,none⟩))).run P w= .ok (.pointer (some ⟨b,o,none⟩)) w:=by
 have: ¬ (c.size<=o):=by omega
 simp [convert,run_underlying hs,run_underlying hd,Conv.unsafePointer,xH (P:=P) h,cellsIn,World.shape?,h,sizeOf,typeInfo,hi,hz,this]
theorem Bi {src dst u:TypeId} {i:TypeInfo} {b:Nat} {c:Array Value} {fz:Nat×Nat} (h:w.heap[b]?=some (.cells c u fz)) (hs:P.underlying src=some .unsafePointer) (hd:P.underlying dst=some (.pointer u))
  (hi:P.info? u=some i) (hz:i.size≠0) (hn:c.size=i.size):(convert src dst (.pointer (some ⟨b,0,none⟩))).run P w= .ok (.pointer (some ⟨b,0,none⟩)) w:=by
 have hcells:P.cellsOf u=i.size:=by simp [Program.cellsOf,hi]
 have hl:liesAt P P.depth u (c.size / P.cellsOf u) 0 u 1=true:=DB (by rw [hcells];exact hz) _ _ (by rw [hcells,hn,Nat.div_self (Nat.pos_of_ne_zero hz)];exact aa0 _);simp [convert,run_underlying hs,run_underlying hd,Conv.unsafePointer,xH (P:=P) h,World.shape?,h,sizeOf,typeInfo,hi,hz,variablesAt,hl]
theorem yt {c:av} (hc:bP c P) (hm:Mem g bs w) {src dst:TypeId} {id:Nat} {x r:AV} {u:Value} {e:c9} (hx:Rd g w x u) (h:ea c (c.ti src) (c.ti dst) x bs id=some (r,e))
  {bs':List ad} (he:e.on bs id=some bs'):cT ((do pure (Next.value (<-convert src dst u)):Sem Next).run P w) g w bs' r:=by
 have desc: ∀{t:TypeId} {d:TypeDesc},c.descOf t=some d->P.underlying t=some d:=fun {t d} h=>by
  unfold av.descOf at h;cases ht:c.ti t with
  | none=>rw [ht] at h;cases h
  | some i=>rw [ht] at h;obtain ⟨info,hi⟩:=bG (hc.ty t i ht);simp only [aa1,Option.some.injEq] at h;rw [<-h];exact hi.fq
 unfold ea at h;split at h
 ·rename_i s d hs hd;obtain ⟨sinfo,hsi⟩:=bG (hc.ty src s hs);obtain ⟨dinfo,hdi⟩:=bG (hc.ty dst d hd);split at h
  ·rename_i k off hdd;split at h
   ·rename_i t ty cs hsd hb;split at h
    ·rename_i j hj;split at h
     ·rename_i hlt;cases h;cases he;obtain ⟨info,hi⟩:=bG (hc.ty t j hj);obtain ⟨b,hge,rfl⟩:=hx.gE;obtain ⟨b',hge',cc,hh,hn,hcs⟩:=hm.var k ty cs hb;rw [hge] at hge';cases hge';exact .pure (aT P w _ _ _ (Bh (P:=P) hh (hsd▸hsi.fq) (hdd▸hdi.fq) hi.info (by rw [hi.size];exact hlt.1) (by omega))) hm hx
     ·cases h
    ·cases h
   ·cases h
  ·rename_i u' k hdd;split at h
   ·rename_i ty cs hsd hb;split at h
    ·rename_i j hj;split at h
     ·rename_i hlt;cases h;cases he;obtain ⟨rfl,hsz,hnz⟩:=hlt;obtain ⟨info,hi⟩:=bG (hc.ty _ j hj);obtain ⟨b,hge,rfl⟩:=hx.gE;obtain ⟨b',hge',cc,hh,hn,hcs⟩:=hm.var k _ cs hb;rw [hge] at hge';cases hge';exact .pure (aT P w _ _ _ (Bi (P:=P) hh (hsd▸hsi.fq) (hdd▸hdi.fq) hi.info (by rw [hi.size];exact hnz) (by rw [hn,<-hsz,hi.size]))) hm hx
     ·cases h
    ·cases h
   ·cases h
  ·rename_i k k' n hdd;cases h;cases he;obtain rfl:=hx.aJ;exact .pure (v:= .int k (k.wrap n)) (by simp [convert,run_underlying hsi.fq,run_underlying (hdd▸hdi.fq),Conv.intToInt]) hm (.int _ _)
  ·rename_i l hdd;cases h;cases he;obtain rfl:=hx.cE;exact .pure (v:= .string ⟨l.toArray⟩) (by simp [convert,run_underlying hsi.fq,run_underlying (hdd▸hdi.fq)]) hm (.str _)
  ·rename_i k' n hdd;cases h;cases he;obtain rfl:=hx.aJ;exact .pure (v:= .string ⟨(Utf8.encode n).data.toList.toArray⟩) (by simp [convert,run_underlying hsi.fq,run_underlying (hdd▸hdi.fq),Conv.intToString]) hm (.str _)
  ·rename_i el l hdd;split at h
   ·rename_i hsd hel;split at h
    ·rename_i hl;subst hl;cases h;cases he;obtain rfl:=hx.cE;exact yr hm (hsd▸hsi.fq) (hdd▸hdi.fq) (desc hel)
    split at h
    ·rename_i hl _;cases h;obtain rfl:=hx.cE;exact DA hm (hsd▸hsi.fq) (hdd▸hdi.fq) (desc hel) hl he
    ·cases h
   ·cases h
  ·rename_i hdd hns _;split at h
   ·rename_i el hsd;split at h
    ·rename_i sz es hel hes;cases hb:bytesOf es with
     | none=>rw [hb] at h;cases h
     | some l=>rw [hb] at h;cases h;cases he;obtain ⟨a,cap,rfl,hat⟩:=ou hm hx hes;have h1:=run_convert_bytes_string (P:=P) w src dst el a es.length cap (hsd▸hsi.fq) (desc hel) (hdd▸hdi.fq);rw [Bg (P:=P) hat hb] at h1;exact .pure (v:= .string ⟨l.toArray⟩) (aT P w _ _ _ h1) hm (.str _)
    ·cases h
   ·cases h
  ·cases h
 ·cases h
end
end Go.Am
