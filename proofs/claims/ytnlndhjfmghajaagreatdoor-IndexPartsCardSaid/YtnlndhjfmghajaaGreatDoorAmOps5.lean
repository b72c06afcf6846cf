/- Each operation of the abstract machine is sound, fifth part: -/
import Derived.Test.YtnlndhjfmghajaaGreatDoorAmOps4
import Derived.IntWalk
import Derived.Laws.IdiomStrings
set_option linter.all false
namespace Go.Am
variable [Kn]
section
variable {P:Program} {g:Gh} {bs:List Box} {w:World}
theorem zero_row (zero:Array Value) (n sz i j:Nat) (hz:zero.size=sz) (hi:i<n) (hj:j<sz):((Array.range (n*sz)).map (zero[· %zero.size]!))[i*sz+j]?=zero[j]?:=by
 have hlt:i*sz+j<n*sz:=by
  have:(i+1)*sz≤n*sz:=Nat.mul_le_mul_right _ hi
  rw [Nat.add_mul] at this
  omega
 have hmod:(i*sz+j)%zero.size=j:=by rw [hz,Nat.add_comm,Nat.add_mul_mod_self_right,Nat.mod_eq_of_lt hj]
 have hjz:j<zero.size:=by omega
 simp [hlt,hmod,hjz]
def RowOf (g:Gh) (w:World) (sz:Nat) (es:List AV) (c:Array Value):Prop:=
 ∀(i j:Nat) (e x:AV) (v:Value),es[i]?=some e→e.cells[j]?=some x→c[i*sz+j]?=some v→Rd g w x v∧v.oneCell'=true
def ElOk (sz:Nat) (es:List AV):Prop:= ∀(i:Nat) (e:AV),es[i]?=some e→e.plain=true∧e.cells.length=sz
theorem mkElem_spec {agg:Bool} {n:Nat} {cs:List AV} {e:AV} (h:mkElem agg n cs=some e):e.cells=cs∧cs.length=n∧e.plain=true∧cellsOk cs=true:=by
 unfold mkElem at h
 split at h
 ·rename_i hc
  obtain ⟨h1,h2,h3⟩:=hc
  split at h
  ·cases h;exact ⟨rfl,h1,by simpa only [AV.plain] using h2,h3⟩
  ·split at h
   ·rename_i v
    split at h
    ·cases h
    ·rename_i hne
     cases h
     refine ⟨?_,h1,by simpa [plainAll] using h2,h3⟩
     cases e <;> first | rfl | exact absurd rfl (hne _)
   ·cases h
 ·cases h
theorem zero_els {v:Value} {agg:Bool} {sz:Nat} {ze:AV} (h:mkElem agg sz (ofVal v).cells=some ze) (n m:Nat) (hnm:n≤m):
  RowOf g w sz (List.replicate n ze) ((Array.range (m*sz)).map (v.cells[· %v.cells.size]!))∧ElOk sz (List.replicate n ze):=by
 obtain ⟨h1,h2,h3,h4⟩:=mkElem_spec h
 obtain ⟨k1,k2⟩:=val_cells (g:=g) (w:=w) v
 refine ⟨fun i j e x u he hx hu=> ?_,fun i e he=> ?_⟩
 ·have hi:=getElem?_lt he
  rw [List.length_replicate] at hi
  rw [List.getElem?_replicate,if_pos hi] at he
  cases he
  rw [h1] at hx
  have hj:=getElem?_lt hx
  rw [h2] at hj
  rw [zero_row v.cells m sz i j (by omega) (by omega) hj] at hu
  have:=k2 j x u hx hu
  exact ⟨this,this.one (cellsOk_get h4 hx)⟩
 ·have hi:=getElem?_lt he
  rw [List.length_replicate] at hi
  rw [List.getElem?_replicate,if_pos hi] at he
  cases he
  exact ⟨h3,by rw [h1,h2]⟩
theorem fillS_run {sz:Nat} {ps:List (Nat×AV)} {qs:List (Nat×Value)} (hps:PartsRel g w ps qs):
  ∀(es:List AV) (c:Array Value) (es':List AV),c.size=es.length*sz→RowOf g w sz es c→ElOk sz es→setElems es sz ps=some es'→
   ∃c',Instr.fill (fun i=>some (i*sz,sz)) c qs=some c'∧c'.size=es'.length*sz∧es'.length=es.length∧RowOf g w sz es' c'∧ElOk sz es':=by
 induction hps with
 | nil=>intro es c es' hn h hok hf;cases hf;exact ⟨c,rfl,hn,rfl,h,hok⟩
 | @cons p q ps qs hpq _ ih=>
  intro es c es' hn h hok hf
  obtain ⟨i,x⟩:=p
  obtain ⟨i',v⟩:=q
  obtain ⟨rfl,hx⟩:=hpq
  simp only [setElems] at hf
  split at hf
  ·rename_i hc
   obtain ⟨h1,h2,h3,h4⟩:=hc
   obtain ⟨k1,k2⟩:=Rd.cells hx (ne_any_of_cells h4)
   simp only at hx h1 h2 h3 h4 k1 k2 hf
   have hin:(i+1)*sz≤es.length*sz:=Nat.mul_le_mul_right _ h1
   rw [Nat.add_mul] at hin
   obtain ⟨c',q1,q2,q3,q4,q5⟩:=ih (es.set i x) (v.cells.zipIdx.foldl (fun cs (p:Value×Nat)=>cs.setIfInBounds (i*sz+p.2) p.1) c) es' (by rw [fold_put_size,hn,List.length_set])
    (fun i2 j e y u he hy hu=>by
     rw [List.getElem?_set] at he
     rw [fold_put] at hu
     by_cases e2:i=i2
     ·subst e2
      rw [if_pos rfl,if_pos h1] at he
      cases he
      have hj:=getElem?_lt hy
      rw [if_pos (by omega)] at hu
      rw [show i*sz+j-i*sz=j by omega] at hu
      have:=k2 j y u hy hu
      exact ⟨this,this.one (cellsOk_get h4 hy)⟩
     ·rw [if_neg e2] at he
      have hj:=getElem?_lt hy
      rw [(hok i2 e he).2] at hj
      rw [if_neg] at hu
      ·exact h i2 j e y u he hy hu
      ·rintro ⟨a1,a2,a3⟩
       rcases Nat.lt_or_gt_of_ne e2 with hlt | hlt
       ·have:(i+1)*sz≤i2*sz:=Nat.mul_le_mul_right _ hlt
        rw [Nat.add_mul] at this
        omega
       ·have:(i2+1)*sz≤i*sz:=Nat.mul_le_mul_right _ hlt
        rw [Nat.add_mul] at this
        omega)
    (fun i2 e he=>by
     rw [List.getElem?_set] at he
     by_cases e2:i=i2
     ·subst e2
      rw [if_pos rfl,if_pos h1] at he
      cases he
      exact ⟨h3,h2⟩
     ·rw [if_neg e2] at he
      exact hok i2 e he) hf
   refine ⟨c',?_,q2,by rw [q3,List.length_set],q4,q5⟩
   simp only [Instr.fill]
   rw [if_neg (by simp;omega)]
   exact q1
  ·cases hf
theorem buildSlice_sound {c:Cfg} (hc:CfgTy c P) (hm:Mem g bs w) {t:TypeId} {len id:Nat} {ps:List (Nat×AV)} {qs:Array (Nat×Value)} {r:AV} {e:Eff} (hps:PartsRel g w ps qs.toList)
  (h:buildSliceA c (c.ti t) len ps id=some (r,e)) {bs':List Box} (he:e.on bs id=some bs'):
  OpOk ((do pure (Next.value (←Instr.buildSlice t len qs)):Sem Next).run P w) g w bs' r:=by
 unfold buildSliceA at h
 split at h
 ·rename_i i hti
  obtain ⟨info,hi⟩:=ty_is (hc.ty t i hti)
  split at h
  ·rename_i el hdesc
   split at h
   ·rename_i j hj
    obtain ⟨jinfo,hj'⟩:=ty_is (hc.ty el j hj)
    split at h
    ·rename_i z hz
     have hzz:=hj'.zero
     rw [hz] at hzz
     cases hv:jinfo.zero with
     | none=>rw [hv] at hzz;cases hzz
     | some v=>
      rw [hv] at hzz
      simp only [Option.map_some,Option.some.injEq] at hzz
      subst hzz
      split at h
      ·rename_i hl0
       subst hl0
       split at h
       ·cases h;cases he
        cases hq:qs.toList with
        | cons q l=>rw [hq] at hps;cases hps
        | nil=>
         have hq':qs= #[]:=by rw [←Array.toList_inj,hq]
         subst hq'
         refine more_ok (w':=w.alloc (.cells #[] el)) (v:= .slice (some ⟨w.heap.size,0,none⟩) 0 0) hm ?_ (fun b hb=>alloc_old w _ hb) (by simp) rfl rfl rfl (.cap0 _ _ (fun _ h=>by cases h;rfl))
         have r0:Array.range 0= #[]:=rfl
         simp [Instr.buildSlice,run_underlying (hdesc▸hi.und),sizeOf,typeInfo,hj'.info,r0,Instr.fill,newRow]
       ·cases h
      split at h
      ·rename_i hlen0 hlen
       split at h
       ·rename_i ze hze
        cases hf:setElems (List.replicate len ze) j.size ps with
        | none=>rw [hf] at h;cases h
        | some es=>
         rw [hf] at h;cases h
         obtain ⟨k1,k2⟩:=zero_els (g:=g) (w:=w) hze len len (Nat.le_refl _)
         obtain ⟨c',q1,q2,q3,q4,q5⟩:=fillS_run hps _ ((Array.range (len*j.size)).map (v.cells[· %v.cells.size]!)) _ (by simp) k1 k2 hf
         rw [List.length_replicate] at q3
         subst q3
         refine new_sl hm he (c:=c') (ty:=el) (fz:=(0,0)) (cap:=es.length) (w':=w.alloc (.cells c' el)) ?_ (fun b hb=>alloc_old w _ hb) (by simp) (alloc_new w _) rfl rfl rfl (fun o _=>by simp) q2 (Nat.le_refl _) (by omega) q5 q4
         have hnot: ¬ es.length*j.size>2^24:=by
          have:(2:Nat)^24=16777216:=by decide
          unfold buildLim at hlen
          omega
         by_cases h0:es.length*j.size=0
         ·have r0:Array.range 0= #[]:=rfl
          rw [h0,r0] at q1
          simp only [Array.map_empty] at q1
          simp [Instr.buildSlice,run_underlying (hdesc▸hi.und),sizeOf,typeInfo,hj'.info,hj'.size,h0,r0,q1,newRow]
         ·simp [Instr.buildSlice,run_underlying (hdesc▸hi.und),sizeOf,typeInfo,hj'.info,hj'.size,h0,hnot,zeroValue,hv,q1,newRow]
       ·cases h
      ·cases h
    ·cases h
   ·cases h
  ·cases h
 ·cases h
theorem makeSlice_sound {c:Cfg} (hc:CfgTy c P) (hm:Mem g bs w) {t:TypeId} {id:Nat} {x y r:AV} {u v:Value} {e:Eff} (hx:Rd g w x u) (hy:Rd g w y v)
  (h:makeSliceA c (c.ti t) x y id=some (r,e)) {bs':List Box} (he:e.on bs id=some bs'):
  OpOk ((do pure (Next.value (←Instr.makeSlice t u v)):Sem Next).run P w) g w bs' r:=by
 unfold makeSliceA at h
 split at h
 ·rename_i i kl l km m hti
  obtain ⟨info,hi⟩:=ty_is (hc.ty t i hti)
  obtain rfl:=hx.int_inv
  obtain rfl:=hy.int_inv
  split at h
  ·rename_i el hdesc
   split at h
   ·rename_i j hj
    obtain ⟨jinfo,hj'⟩:=ty_is (hc.ty el j hj)
    split at h
    ·rename_i z hz
     have hzz:=hj'.zero
     rw [hz] at hzz
     cases hv:jinfo.zero with
     | none=>rw [hv] at hzz;cases hzz
     | some v=>
      rw [hv] at hzz
      simp only [Option.map_some,Option.some.injEq] at hzz
      subst hzz
      split at h
      ·rename_i hlen
       obtain ⟨hl0,hlm,hlim⟩:=hlen
       split at h
       ·rename_i ze hze
        obtain ⟨n,rfl⟩:=Int.eq_ofNat_of_zero_le hl0
        obtain ⟨k,rfl⟩:=Int.eq_ofNat_of_zero_le (Int.le_trans hl0 hlm)
        have hnk:n≤k:=by omega
        split at h
        ·rename_i hk0
         cases h;cases he
         obtain rfl:k=0:=by omega
         obtain rfl:n=0:=by omega
         refine more_ok (w':=w.alloc (.cells #[] el)) (v:= .slice (some ⟨w.heap.size,0,none⟩) 0 0) hm ?_ (fun b hb=>alloc_old w _ hb) (by simp) rfl rfl rfl (.cap0 _ _ (fun _ h=>by cases h;rfl))
         have r0:Array.range 0= #[]:=rfl
         simp [Instr.makeSlice,run_underlying (hdesc▸hi.und),asInt,asIntOf,sizeOf,typeInfo,hj'.info,IntWalk.i64_in,r0,newRow]
        rename_i hk0'
        cases h
        obtain ⟨k1,k2⟩:=zero_els (g:=g) (w:=w) hze n k hnk
        have hkb:k*(j.bytes+1)≤sliceLim:=by
         have:((k*(j.bytes+1):Nat):Int)≤(sliceLim:Int):=by push_cast;exact hlim
         omega
        have hk1:k≤sliceLim:=Nat.le_trans (Nat.le_mul_of_pos_right k (by omega)) hkb
        have hk2:j.bytes*k≤sliceLim:=by rw [Nat.mul_comm];exact Nat.le_trans (Nat.mul_le_mul_left k (by omega)) hkb
        unfold sliceLim at hk1 hk2
        have hwl:IntKind.i64.wrap (n:Int)=n:=IntWalk.i64_in _ (by omega)
        have hwk:IntKind.i64.wrap (k:Int)=k:=IntWalk.i64_in _ (by omega)
        have key:=new_sl hm (es:=List.replicate n ze) (sz:=j.size) (c:=(Array.range (k*j.size)).map (v.cells[· %v.cells.size]!)) (ty:=el) (fz:=(0,0)) (cap:=k) (w':=w.alloc (.cells ((Array.range (k*j.size)).map (v.cells[· %v.cells.size]!)) el))
         (r:=(do pure (Next.value (←Instr.makeSlice t (.int kl (n:Int)) (.int km (k:Int)))):Sem Next).run P w) (by simpa using he) ?_ (fun b hb=>alloc_old w _ hb) (by simp) (alloc_new w _) rfl rfl rfl (fun o _=>by simp) (by simp) (by simpa using hnk) (by omega) k2 k1
        ·simpa using key
        ·have hb: ¬ (281474976710656:Int)<(j.bytes:Int)*(k:Int):=by
          have h1:((j.bytes*k:Nat):Int)≤70368744177664:=by omega
          rw [Int.natCast_mul] at h1
          omega
         have hk0: ¬ (k:Int)<0:=by omega
         have hn0: ¬ (n:Int)<0:=by omega
         have hkn: ¬ (k:Int)<(n:Int):=by omega
         by_cases h0:k*j.size=0
         ·have r0:Array.range 0= #[]:=rfl
          simp [Instr.makeSlice,run_underlying (hdesc▸hi.und),asInt,asIntOf,sizeOf,typeInfo,hj'.info,hj'.size,hj'.bytes,hwl,hwk,hn0,hkn,h0,r0,newRow]
          intro hbad
          rcases hbad with h | h
          ·exact absurd h hk0
          ·exact absurd h hb
         ·simp [Instr.makeSlice,run_underlying (hdesc▸hi.und),asInt,asIntOf,sizeOf,typeInfo,hj'.info,hj'.size,hj'.bytes,hwl,hwk,hn0,hkn,h0,zeroValue,hv,newRow]
          intro hbad
          rcases hbad with h | h
          ·exact absurd h hk0
          ·exact absurd h hb
       ·cases h
      ·cases h
    ·cases h
   ·cases h
  ·cases h
 ·cases h
theorem bytesOf_spec: ∀{es:List AV} {s:List UInt8},bytesOf es=some s→ ∃ns:List Int,es=ns.map (AV.int .u8)∧s=ns.map fun n=>UInt8.ofNat n.toNat
 | [],s,h=>by cases h;exact ⟨[],rfl,rfl⟩
 | v::r,s,h=>by
  simp only [bytesOf] at h
  split at h
  ·rename_i c l hb hl
   cases h
   obtain ⟨ns,h1,h2⟩:=bytesOf_spec hl
   unfold byteOf at hb
   split at hb
   ·rename_i n
    cases hb
    exact ⟨n::ns,by rw [h1];rfl,by rw [h2];rfl⟩
   ·cases hb
  ·cases h
theorem push_bytes: ∀(ns:List Int) (l:List UInt8),ns.foldl (fun r n=>r.push (UInt8.ofNat n.toNat)) (ByteArray.mk l.toArray)=ByteArray.mk (l++ns.map fun n=>UInt8.ofNat n.toNat).toArray
 | [],l=>by simp
 | n::ns,l=>by
  have:(ByteArray.mk l.toArray).push (UInt8.ofNat n.toNat)=ByteArray.mk (l++ [UInt8.ofNat n.toNat]).toArray:=by
   apply ByteArray.ext
   simp [ByteArray.data_push]
  rw [List.foldl_cons,this,push_bytes ns]
  simp
theorem toString_run {sz:Nat} {es:List AV} {a:Option Addr} {cap:Nat} (hel:ElemsAt g w sz es a cap) {s:List UInt8} (h:bytesOf es=some s):(Conv.bytesToString (.slice a es.length cap)).run P w= .ok (.string ⟨s.toArray⟩) w:=by
 obtain ⟨ns,rfl,rfl⟩:=bytesOf_spec h
 cases a with
 | none=>
  have:=(hel.nil rfl).1
  simp only [List.map_eq_nil_iff] at this
  subst this
  rfl
 | some a=>
  have hld:(loadCells a (ns.map (AV.int .u8)).length).run P w= .ok (ns.map (Value.int .u8)).toArray w:=by
   have:=run_loadCells_list (P:=P) w a (ns.map (Value.int .u8)) (fun j v hv=>by
    have hj:=getElem?_lt hv
    rw [List.length_map] at hj
    have hne:ns.map (AV.int .u8)≠ []:=by
     intro h0
     rw [List.map_eq_nil_iff] at h0
     subst h0
     simp at hj
    obtain ⟨b,off,ha,hcs⟩:=hel.at_ hne
    cases ha
    have hej:(ns.map (AV.int .u8))[j]?=some (.int .u8 ns[j]):=by simp [hj]
    have hsz:=(hel.ok j _ hej).2
    simp only [AV.cells,List.length_cons,List.length_nil] at hsz
    obtain ⟨u,hu,ru,_⟩:=hcs j _ hej 0 (.int .u8 ns[j]) rfl
    obtain rfl:=ru.int_inv
    rw [addr_add]
    rw [List.getElem?_map,List.getElem?_eq_getElem hj] at hv
    cases hv
    rw [←hu,←hsz]
    simp)
   simpa using this
  rw [run_bytesToString w a _ cap ns hld]
  have:=push_bytes ns []
  rw [show (ByteArray.mk ([]:List UInt8).toArray)=ByteArray.empty from rfl] at this
  rw [this]
  rfl
theorem toBytes_run (hm:Mem g bs w) {src dst el:TypeId} {s:List UInt8} {id:Nat} {bs':List Box} (hs:P.underlying src=some .string) (hd:P.underlying dst=some (.slice el)) (he:P.underlying el=some (.int .u8)) (hne:s≠ [])
  (hb:(Eff.new (.sl ⟨false,some el,none⟩ 1 (s.map ofByte))).on bs id=some bs'):OpOk ((do pure (Next.value (←convert src dst (.string ⟨s.toArray⟩))):Sem Next).run P w) g w bs' (.osl id s.length):=by
 have hsize:(ByteArray.mk s.toArray).size=s.length:=by show s.toArray.size=_;simp
 have hrun:=run_bytes_of_string (P:=P) w src dst el ⟨s.toArray⟩ hs hd he
 rw [hsize] at hrun
 generalize hcapd:grownCap w s.length 0 el=cap at hrun
 have hcap:s.length≤cap:=by
  rw [←hcapd];show s.length≤(Question.appendCap s.length 0 el).cut _;show s.length≤s.length+_;omega
 have hcs:(bytesRow ⟨s.toArray⟩ cap).size=cap:=by unfold bytesRow;simp [hsize];omega
 have hget: ∀(i:Nat) (b:UInt8),s[i]?=some b→(bytesRow ⟨s.toArray⟩ cap)[i]?=some (Value.int .u8 b.toNat):=fun i b h=>by
  have hi:=getElem?_lt h
  unfold bytesRow
  rw [Array.getElem?_append_left (by simp;omega)]
  simp [h]
 have key:=new_sl hm (es:=s.map ofByte) (sz:=1) (c:=bytesRow ⟨s.toArray⟩ cap) (ty:=el) (fz:=((bytesRow ⟨s.toArray⟩ cap).size,(bytesRow ⟨s.toArray⟩ cap).size+1)) (cap:=cap) (w':=(w.drew.alloc (.cells (bytesRow ⟨s.toArray⟩ cap) el ((bytesRow ⟨s.toArray⟩ cap).size,(bytesRow ⟨s.toArray⟩ cap).size+1))))
  (r:=(do pure (Next.value (←convert src dst (.string ⟨s.toArray⟩))):Sem Next).run P w) hb ?_ (fun b hb=>alloc_old w.drew _ hb) (by simp) (alloc_new w.drew _) rfl rfl rfl (fun o ho=>by simp only;omega) (by rw [hcs];simp) (by simpa using hcap) (by have:=List.length_pos_iff.2 hne;omega)
  (fun i e he=>by
   rw [List.getElem?_map] at he
   cases hi:s[i]? with
   | none=>rw [hi] at he;cases he
   | some b=>rw [hi] at he;cases he;exact ⟨rfl,rfl⟩)
  (fun i j e x v he hx hv=>by
   rw [List.getElem?_map] at he
   cases hi:s[i]? with
   | none=>rw [hi] at he;cases he
   | some b=>
    rw [hi] at he;cases he
    have hj:=getElem?_lt hx
    simp only [ofByte,AV.cells,List.length_cons,List.length_nil] at hj
    have hj0:j=0:=by omega
    subst hj0
    simp only [ofByte,AV.cells,List.getElem?_cons_zero,Option.some.injEq] at hx
    subst hx
    rw [Nat.mul_one,Nat.add_zero,hget i b hi] at hv
    cases hv
    exact ⟨.int _ _,rfl⟩)
 ·simpa using key
 ·rw [wrap_run P w _ _ _ hrun]
  simp
theorem toBytes_empty (hm:Mem g bs w) {src dst el:TypeId} (hs:P.underlying src=some .string) (hd:P.underlying dst=some (.slice el)) (he:P.underlying el=some (.int .u8)):
  OpOk ((do pure (Next.value (←convert src dst (.string ⟨([]:List UInt8).toArray⟩))):Sem Next).run P w) g w bs (.lst (some false) 1 []):=by
 have hrun:=run_bytes_of_string (P:=P) w src dst el ⟨([]:List UInt8).toArray⟩ hs hd he
 have hsize:(ByteArray.mk ([]:List UInt8).toArray).size=0:=rfl
 rw [hsize] at hrun
 generalize hcapd:grownCap w 0 0 el=cap at hrun
 refine more_ok (w':=(w.drew.alloc (.cells (bytesRow ⟨([]:List UInt8).toArray⟩ cap) el ((bytesRow ⟨([]:List UInt8).toArray⟩ cap).size,(bytesRow ⟨([]:List UInt8).toArray⟩ cap).size+1)))) hm (wrap_run P w _ _ _ hrun) (fun b hb=>alloc_old w.drew _ hb) (by simp) rfl rfl rfl ?_
 exact .lst (some false) 1 [] (some ⟨w.heap.size,0,none⟩) cap 0 0 (fun _ _=>undef) (fun x hx=>by cases hx;rfl) (fun h=>by cases h) (Nat.zero_le _) (fun h=>absurd rfl h) (fun i e h=>by simp at h) (fun i j e x h=>by simp at h) (fun i j e x h=>by simp at h)
theorem liesAt_same {e:TypeId} (hc:P.cellsOf e≠0) (count n:Nat) (hn:n≤count):liesAt P P.depth e count 0 e n=true:=by
 have hd:P.depth=(2*(P.types.size+Made.depth)+1)+1:=rfl
 rw [hd]
 simp only [liesAt,Bool.or_eq_true]
 left
 rw [hd]
 simp [rowAt,hc,hn,sameLayout]
theorem seenAt_run {b o:Nat} {c:Array Value} {ty:TypeId} {fz:Nat×Nat} (h:w.heap[b]?=some (.cells c ty fz)):(Conv.seenAt ⟨b,o,none⟩).run P w= .ok ⟨b,o,none⟩ w:=by
 simp [Conv.seenAt,viewAt,World.shape?,h]
theorem toUnsafe_run {src dst t:TypeId} {i:TypeInfo} {b o:Nat} {c:Array Value} {ty:TypeId} {fz:Nat×Nat} (h:w.heap[b]?=some (.cells c ty fz)) (hs:P.underlying src=some (.pointer t)) (hd:P.underlying dst=some .unsafePointer)
  (hi:P.info? t=some i) (hz:i.size≠0) (ho:o<c.size):(convert src dst (.pointer (some ⟨b,o,none⟩))).run P w= .ok (.pointer (some ⟨b,o,none⟩)) w:=by
 have: ¬ (c.size≤o):=by omega
 simp [convert,run_underlying hs,run_underlying hd,Conv.unsafePointer,seenAt_run (P:=P) h,cellsIn,World.shape?,h,sizeOf,typeInfo,hi,hz,this]
theorem ofUnsafe_run {src dst u:TypeId} {i:TypeInfo} {b:Nat} {c:Array Value} {fz:Nat×Nat} (h:w.heap[b]?=some (.cells c u fz)) (hs:P.underlying src=some .unsafePointer) (hd:P.underlying dst=some (.pointer u))
  (hi:P.info? u=some i) (hz:i.size≠0) (hn:c.size=i.size):(convert src dst (.pointer (some ⟨b,0,none⟩))).run P w= .ok (.pointer (some ⟨b,0,none⟩)) w:=by
 have hcells:P.cellsOf u=i.size:=by simp [Program.cellsOf,hi]
 have hl:liesAt P P.depth u (c.size / P.cellsOf u) 0 u 1=true:=liesAt_same (by rw [hcells];exact hz) _ _ (by rw [hcells,hn,Nat.div_self (Nat.pos_of_ne_zero hz)];exact Nat.le_refl _)
 simp [convert,run_underlying hs,run_underlying hd,Conv.unsafePointer,seenAt_run (P:=P) h,World.shape?,h,sizeOf,typeInfo,hi,hz,variablesAt,hl]
theorem convert_sound {c:Cfg} (hc:CfgTy c P) (hm:Mem g bs w) {src dst:TypeId} {id:Nat} {x r:AV} {u:Value} {e:Eff} (hx:Rd g w x u) (h:convertA c (c.ti src) (c.ti dst) x bs id=some (r,e))
  {bs':List Box} (he:e.on bs id=some bs'):OpOk ((do pure (Next.value (←convert src dst u)):Sem Next).run P w) g w bs' r:=by
 have desc: ∀{t:TypeId} {d:TypeDesc},c.descOf t=some d→P.underlying t=some d:=fun {t d} h=>by
  unfold Cfg.descOf at h
  cases ht:c.ti t with
  | none=>rw [ht] at h;cases h
  | some i=>
   rw [ht] at h
   obtain ⟨info,hi⟩:=ty_is (hc.ty t i ht)
   simp only [Option.map_some,Option.some.injEq] at h
   rw [←h];exact hi.und
 unfold convertA at h
 split at h
 ·rename_i s d hs hd
  obtain ⟨sinfo,hsi⟩:=ty_is (hc.ty src s hs)
  obtain ⟨dinfo,hdi⟩:=ty_is (hc.ty dst d hd)
  split at h
  ·rename_i k off hdd
   split at h
   ·rename_i t ty cs hsd hb
    split at h
    ·rename_i j hj
     split at h
     ·rename_i hlt
      cases h;cases he
      obtain ⟨info,hi⟩:=ty_is (hc.ty t j hj)
      obtain ⟨b,hge,rfl⟩:=hx.ptr_inv
      obtain ⟨b',hge',cc,hh,hn,hcs⟩:=hm.var k ty cs hb
      rw [hge] at hge';cases hge'
      exact .pure (wrap_run P w _ _ _ (toUnsafe_run (P:=P) hh (hsd▸hsi.und) (hdd▸hdi.und) hi.info (by rw [hi.size];exact hlt.1) (by omega))) hm hx
     ·cases h
    ·cases h
   ·cases h
  ·rename_i u' k hdd
   split at h
   ·rename_i ty cs hsd hb
    split at h
    ·rename_i j hj
     split at h
     ·rename_i hlt
      cases h;cases he
      obtain ⟨rfl,hsz,hnz⟩:=hlt
      obtain ⟨info,hi⟩:=ty_is (hc.ty _ j hj)
      obtain ⟨b,hge,rfl⟩:=hx.ptr_inv
      obtain ⟨b',hge',cc,hh,hn,hcs⟩:=hm.var k _ cs hb
      rw [hge] at hge';cases hge'
      exact .pure (wrap_run P w _ _ _ (ofUnsafe_run (P:=P) hh (hsd▸hsi.und) (hdd▸hdi.und) hi.info (by rw [hi.size];exact hnz) (by rw [hn,←hsz,hi.size]))) hm hx
     ·cases h
    ·cases h
   ·cases h
  ·rename_i k k' n hdd
   cases h;cases he
   obtain rfl:=hx.int_inv
   exact .pure (v:= .int k (k.wrap n)) (by simp [convert,run_underlying hsi.und,run_underlying (hdd▸hdi.und),Conv.intToInt]) hm (.int _ _)
  ·rename_i l hdd
   cases h;cases he
   obtain rfl:=hx.str_inv
   exact .pure (v:= .string ⟨l.toArray⟩) (by simp [convert,run_underlying hsi.und,run_underlying (hdd▸hdi.und)]) hm (.str _)
  ·rename_i k' n hdd
   cases h;cases he
   obtain rfl:=hx.int_inv
   exact .pure (v:= .string ⟨(Utf8.encode n).data.toList.toArray⟩) (by simp [convert,run_underlying hsi.und,run_underlying (hdd▸hdi.und),Conv.intToString]) hm (.str _)
  ·rename_i el l hdd
   split at h
   ·rename_i hsd hel
    split at h
    ·rename_i hl
     subst hl
     cases h;cases he
     obtain rfl:=hx.str_inv
     exact toBytes_empty hm (hsd▸hsi.und) (hdd▸hdi.und) (desc hel)
    split at h
    ·rename_i hl _
     cases h
     obtain rfl:=hx.str_inv
     exact toBytes_run hm (hsd▸hsi.und) (hdd▸hdi.und) (desc hel) hl he
    ·cases h
   ·cases h
  ·rename_i hdd hns _
   split at h
   ·rename_i el hsd
    split at h
    ·rename_i sz es hel hes
     cases hb:bytesOf es with
     | none=>rw [hb] at h;cases h
     | some l=>
      rw [hb] at h;cases h;cases he
      obtain ⟨a,cap,rfl,hat⟩:=elems_at hm hx hes
      have h1:=run_convert_bytes_string (P:=P) w src dst el a es.length cap (hsd▸hsi.und) (desc hel) (hdd▸hdi.und)
      rw [toString_run (P:=P) hat hb] at h1
      exact .pure (v:= .string ⟨l.toArray⟩) (wrap_run P w _ _ _ h1) hm (.str _)
    ·cases h
   ·cases h
  ·cases h
 ·cases h
end
end Go.Am
