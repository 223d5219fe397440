/- What is owned, in another order; calls and loops that touch but a part of it; slices that are made. No statement of the program. -/
import Derived.Test.YtgekknefphagbaaGreatDoorEf
import Derived.Laws.MakeOwn
namespace Go.Proofs.YtgekknefphagbaaGreatDoor
open Go.RowKit
set_option linter.unusedSimpArgs false
set_option linter.unusedVariables false
set_option linter.unusedSectionVars false
section
variable {P:Program} {own mv:List Nat} {ops:Array Oper} {e:Env}
theorem zjy (t:Nat):opd e (.tmp t)=get e t:=rfl
theorem zg6 (v:Value):opd e (.const v)=zdo v:=rfl
theorem zlj (g:Nat):opd e (.global g) = .raw (.pointer (some ⟨g,0,none⟩)):=rfl
theorem zoR (f:FuncId):opd e (.func f) = .fn (.func f) [] []:=rfl
theorem get_nil (t:Nat):get [] t = .any:=rfl
theorem zhZ (k:Nat) (v:V) (e:Env) (t:Nat):get ((k,v)::e) t=if t=k then v else get e t:=rfl
theorem zdn (t:Nat) (x:V):put [] t x=[(t,x)]:=rfl
theorem zc1 (k:Nat) (v:V) (e:Env) (t:Nat) (x:V):put ((k,v)::e) t x=if t=k then (k,x)::e else (k,v)::put e t x:=rfl
theorem zon (e:Env) (t:Nat) (x:V):putO e (some t) x=put e t x:=rfl
theorem zmf (e:Env) (x:V):putO e none x=e:=rfl
theorem zoi (ks:List Nat):zaP ks []=[]:=rfl
theorem zlg (ks:List Nat) (k:Nat) (v:V) (e:Env):zaP ks ((k,v)::e)=if ks.contains k=true then (k,v)::zaP ks e else zaP ks e:=rfl
theorem FV_nil (K:List Oper->Env->Prop):FV P own ops K [] e=K [] e:=rfl
def FVr (P:Program) (own:List Nat) (ops:Array Oper) (K:List Oper->Env->Prop) (o:Oper) (rest:List Oper) (e:Env):Prop :=
 if isF own o (opd e)=true then side P o (opd e)/\FV P own ops K rest (putO e o.dst (val P o (opd e))) else K (o::rest) e
def FVg (P:Program) (own:List Nat) (ops:Array Oper) (K:List Oper->Env->Prop) (o:Oper) (rest:List Oper) (e:Env) (v:V):Bool->Prop
 | true=>gd v (FVr P own ops K o rest e) (FV P own ops K rest (putO e o.dst (.tup [])))
 | false=>gf v (FV P own ops K rest (putO e o.dst (.tup []))) (FVr P own ops K o rest e)
section
variable (K:List Oper->Env->Prop) (o:Oper) (rest:List Oper)
theorem FVr_eq:FVr P own ops K o rest e=if isF own o (opd e)=true then side P o (opd e)/\FV P own ops K rest (putO e o.dst (val P o (opd e))) else K (o::rest) e:=rfl
theorem FVg_tt:FVg P own ops K o rest e (.bool true) true=FVr P own ops K o rest e:=by simp only [FVg,zez]
theorem FVg_ff:FVg P own ops K o rest e (.bool false) false=FVr P own ops K o rest e:=by simp only [FVg,zd7]
theorem FVg_tf:FVg P own ops K o rest e (.bool true) false=FV P own ops K rest (putO e o.dst (.tup [])):=by simp only [FVg,zet]
theorem FVg_ft:FVg P own ops K o rest e (.bool false) true=FV P own ops K rest (putO e o.dst (.tup [])):=by simp only [FVg,zd1]
theorem FVg_tup (l:List V) (want:Bool):FVg P own ops K o rest e (.tup l) want=FV P own ops K rest (putO e o.dst (.tup [])):=by cases want<;>rfl
theorem zaa {K:List Oper->Env->Prop} {o:Oper} {rest:List Oper} {b want:Bool} (ht:b=true->FVg P own ops K o rest e (.bool b) want) (hf:b=false->FVg P own ops K o rest e (.bool b) want):FVg P own ops K o rest e (.bool b) want:=by
 cases b
 · exact hf rfl
 · exact ht rfl
theorem FV_cons:FV P own ops K (o::rest) e=match o.guard with
  | none=>FVr P own ops K o rest e
  | some (j,want)=>FVg P own ops K o rest e (gval ops e j) want:=by
 conv=>lhs;unfold FV
 cases o.guard with
 | none=>rfl
 | some jw=>obtain ⟨j,want⟩:=jw;cases want<;>rfl
end
@[congr] theorem FVr_congr (P:Program) (own:List Nat) (ops:Array Oper) (K:List Oper->Env->Prop) (o:Oper) (rest:List Oper) {e e':Env} (h:e=e'):FVr P own ops K o rest e=FVr P own ops K o rest e':=by rw [h]
@[congr] theorem FVg_congr (P:Program) (own:List Nat) (ops:Array Oper) (K:List Oper->Env->Prop) (o:Oper) (rest:List Oper) {e e':Env} {v v':V} (want:Bool) (h:e=e') (hv:v=v'):FVg P own ops K o rest e v want=FVg P own ops K o rest e' v' want:=by rw [h,hv]
theorem FD_nil (K:Nat->List Oper->Env->Prop) (i:Nat):FD P mv ops K i [] e=K i [] e:=rfl
def FDr (P:Program) (mv:List Nat) (ops:Array Oper) (K:Nat->List Oper->Env->Prop) (i:Nat) (o:Oper) (rest:List Oper) (e:Env):Prop :=
 if mv.contains i=true then K i (o::rest) e else side P o (opd e)/\FD P mv ops K (i+1) rest (putO e o.dst (val P o (opd e)))
def FDg (P:Program) (mv:List Nat) (ops:Array Oper) (K:Nat->List Oper->Env->Prop) (i:Nat) (o:Oper) (rest:List Oper) (e:Env) (v:V):Bool->Prop
 | true=>gd v (FDr P mv ops K i o rest e) (FD P mv ops K (i+1) rest (putO e o.dst (.tup [])))
 | false=>gf v (FD P mv ops K (i+1) rest (putO e o.dst (.tup []))) (FDr P mv ops K i o rest e)
section
variable (K:Nat->List Oper->Env->Prop) (i:Nat) (o:Oper) (rest:List Oper)
theorem FDr_eq:FDr P mv ops K i o rest e=if mv.contains i=true then K i (o::rest) e else side P o (opd e)/\FD P mv ops K (i+1) rest (putO e o.dst (val P o (opd e))):=rfl
theorem FDg_tt:FDg P mv ops K i o rest e (.bool true) true=FDr P mv ops K i o rest e:=by simp only [FDg,zez]
theorem FDg_ff:FDg P mv ops K i o rest e (.bool false) false=FDr P mv ops K i o rest e:=by simp only [FDg,zd7]
theorem FDg_tf:FDg P mv ops K i o rest e (.bool true) false=FD P mv ops K (i+1) rest (putO e o.dst (.tup [])):=by simp only [FDg,zet]
theorem FDg_ft:FDg P mv ops K i o rest e (.bool false) true=FD P mv ops K (i+1) rest (putO e o.dst (.tup [])):=by simp only [FDg,zd1]
theorem FDg_tup (l:List V) (want:Bool):FDg P mv ops K i o rest e (.tup l) want=FD P mv ops K (i+1) rest (putO e o.dst (.tup [])):=by cases want<;>rfl
theorem zak {K:Nat->List Oper->Env->Prop} {i:Nat} {o:Oper} {rest:List Oper} {b want:Bool} (ht:b=true->FDg P mv ops K i o rest e (.bool b) want) (hf:b=false->FDg P mv ops K i o rest e (.bool b) want):FDg P mv ops K i o rest e (.bool b) want:=by
 cases b
 · exact hf rfl
 · exact ht rfl
theorem FD_cons:FD P mv ops K i (o::rest) e=match o.guard with
  | none=>FDr P mv ops K i o rest e
  | some (j,want)=>FDg P mv ops K i o rest e (gval ops e j) want:=by
 conv=>lhs;unfold FD
 cases o.guard with
 | none=>rfl
 | some jw=>obtain ⟨j,want⟩:=jw;cases want<;>rfl
end
@[congr] theorem FDr_congr (P:Program) (mv:List Nat) (ops:Array Oper) (K:Nat->List Oper->Env->Prop) (i:Nat) (o:Oper) (rest:List Oper) {e e':Env} (h:e=e'):FDr P mv ops K i o rest e=FDr P mv ops K i o rest e':=by rw [h]
@[congr] theorem FDg_congr (P:Program) (mv:List Nat) (ops:Array Oper) (K:Nat->List Oper->Env->Prop) (i:Nat) (o:Oper) (rest:List Oper) {e e':Env} {v v':V} (want:Bool) (h:e=e') (hv:v=v'):FDg P mv ops K i o rest e v want=FDg P mv ops K i o rest e' v' want:=by rw [h,hv]
end
theorem zjB {w:World} {H H':Own} (h:H.Perm H'):stable w H=stable w H':=by
 funext a
 exact propext ⟨fun ha=>⟨ha.1,fun e he=>ha.2 e (h.mem_iff.2 he)⟩,fun ha=>⟨ha.1,fun e he=>ha.2 e (h.mem_iff.1 he)⟩⟩
theorem Sim.perm {w:World} {H H':Own} (h:H.Perm H') (hs:Sim w H):Sim w H' where
 holds e he:=by rw [<-zjB h];exact hs.holds e (h.mem_iff.2 he)
 disj:=h.pairwise hs.disj fun {x y} hxy a hy hx=>hxy a hx hy
 apart:=h.pairwise hs.apart fun {x y} hxy b hy hx=>hxy b hx hy
theorem Ext.perm {w:World} {H H':Own} (h:H.Perm H'):Ext w H w H':=Ext.drop fun e he=>h.mem_iff.2 he
def SubP (G H:Own):Prop:=∃ L:Own,L.Perm G/\L.Sublist H
theorem Sim.sub {w:World} {G H:Own} (h:SubP G H) (hs:Sim w H):Sim w G:=by obtain ⟨L,h1,h2⟩:=h;exact (hs.drop h2).perm h1
theorem Ext.sub {w:World} {G H:Own} (h:SubP G H):Ext w H w G:=by obtain ⟨L,h1,h2⟩:=h;exact Ext.drop fun e he=>h2.subset (h1.mem_iff.2 he)
def Out (H:Own) (e:Ent) (G:Own->Prop):Prop:=∃ F,H.Perm (e::F)/\G F
theorem Out.here {H:Own} {e:Ent} {G:Own->Prop} (h:G H):Out (e::H) e G:=⟨H,List.Perm.refl _,h⟩
theorem Out.next {H:Own} {e y:Ent} {G:Own->Prop} (h:Out H e fun F=>G (y::F)):Out (y::H) e G:=by
 obtain ⟨F,h1,h2⟩:=h
 exact ⟨y::F,(h1.cons y).trans (List.Perm.swap e y F),h2⟩
def Pull (H:Own) (es:Own) (G:Own->Prop):Prop:=∃ F,H.Perm (es++F)/\G F
theorem Pull.nil {H:Own} {G:Own->Prop} (h:G H):Pull H [] G:=⟨H,List.Perm.refl _,h⟩
theorem Pull.cons {H:Own} {e:Ent} {es:Own} {G:Own->Prop} (h:Out H e fun F=>Pull F es G):Pull H (e::es) G:=by
 obtain ⟨F,h1,F',h2,h3⟩:=h
 exact ⟨F',h1.trans (h2.cons e),h3⟩
def Took (H:Own) (e:Ent) (F:Own):Prop:=H.Perm (e::F)
theorem Took.here {H:Own} {e:Ent}:Took (e::H) e H:=List.Perm.refl _
theorem Took.next {H F:Own} {e y:Ent} (h:Took H e F):Took (y::H) e (y::F):=(List.Perm.cons y h).trans (List.Perm.swap e y F)
def Pulled (H es F:Own):Prop:=H.Perm (es++F)
theorem Pulled.nil {H:Own}:Pulled H [] H:=List.Perm.refl _
theorem Pulled.cons {H F G es:Own} {e:Ent} (h:Took H e F) (t:Pulled F es G):Pulled H (e::es) G:=h.trans (List.Perm.cons e t)
theorem SubP.nil {H:Own}:SubP [] H:=⟨[],List.Perm.refl _,List.nil_sublist _⟩
theorem SubP.refl {H:Own}:SubP H H:=⟨H,List.Perm.refl _,List.Sublist.refl _⟩
theorem SubP.eq {G H:Own} (h:H=G):SubP G H:=h ▸ .refl
theorem SubP.drop {G H:Own} {y:Ent} (h:SubP G H):SubP G (y::H):=by obtain ⟨L,h1,h2⟩:=h;exact ⟨L,h1,h2.cons y⟩
theorem SubP.perm {G H H':Own} (hp:H.Perm H') (h:SubP G H'):SubP G H:=by
 obtain ⟨L,h1,h2⟩:=h
 obtain ⟨L',h3,h4⟩:=List.exists_perm_sublist h2 hp.symm
 exact ⟨L',h3.trans h1,h4⟩
theorem SubP.pick {G H:Own} {e:Ent} (h:Out H e fun L=>SubP G L):SubP (e::G) H:=by
 obtain ⟨F,h1,L,h2,h3⟩:=h
 exact SubP.perm h1 ⟨e::L,h2.cons e,h3.cons_cons e⟩
def le (d d':V):Prop:=∀ (S:Addr->Prop) (w:World) (v:Value),R S w v d->R S w v d'
theorem le.rfl_ {d:V}:le d d:=fun _ _ _ h=>h
theorem le.of_eq {d d':V} (h:d=d'):le d d':=h▸le.rfl_
theorem le.gs {v:Value} {l l':List V} (h:l=l'):le (.gs v l) (.sl l'):=fun S w u r=>by subst h;cases r with | gs v l r=>exact r
inductive Les:List V->List V->Prop
 | nil:Les [] []
 | cons {a b:V} {l m:List V} (h:le a b) (t:Les l m):Les (a::l) (b::m)
theorem Les.len {l m:List V} (h:Les l m):l.length=m.length:=by induction h with | nil=>rfl | cons _ _ ih=>simp [ih]
theorem Les.at {l m:List V} (h:Les l m) (k:Nat):le (l.getD k .any) (m.getD k .any):=by
 induction h generalizing k with
 | nil=>exact le.rfl_
 | cons h t ih=>cases k with
  | zero=>exact h
  | succ k=>exact ih k
theorem DC.args {P:Program} {f:FuncId} {args args':List V} {H:Own} {K:V->Own->Prop} (ha:Les args args') (h:DC P f args' H K):DC P f args H K :=
 ⟨h.1,fun xs w hs hn hr=>h.2 xs w hs (hn.trans ha.len) fun k hk=>ha.at k _ _ _ (hr k (by rw [ha.len];exact hk))⟩
theorem DC.perm {P:Program} {f:FuncId} {args:List V} {H H':Own} {K:V->Own->Prop} (hp:H.Perm H') (h:DC P f args H' K):DC P f args H K :=
 ⟨h.1,fun xs w hs hn hr=>(h.2 xs w (hs.perm hp) hn fun k hk=>(Ext.perm hp).rel (hr k hk)).mono fun x w' ⟨v,d,H1,he,s,ex,r,k⟩=>⟨v,d,H1,he,s,(Ext.perm hp).trans ex,r,k⟩⟩
theorem DC.keep {P:Program} {f:FuncId} {args:List V} {H H':Own} {K:V->Prop} (hp:H.Perm H') (h:DC P f args H' fun d G=>K d/\G=H'):DC P f args H fun d G=>K d/\G=H :=
 ⟨h.1,fun xs w hs hn hr=>(h.2 xs w (hs.perm hp) hn fun k hk=>(Ext.perm hp).rel (hr k hk)).mono fun x w' ⟨v,d,H1,he,s,ex,r,k,hk⟩=>by
   subst hk
   have hx:Ext w H w' H:=((Ext.perm hp).trans ex).trans (Ext.perm hp.symm)
   exact ⟨v,d,H,he,s.perm hp.symm,hx,(Ext.perm hp.symm).rel r,k,rfl⟩⟩
theorem DC.sub {P:Program} {f:FuncId} {args:List V} {H:Own} {K:V->Own->Prop} (h:DC P f args H fun d H'=>∃ d' G,le d d'/\K d' G/\SubP G H'):DC P f args H K :=
 ⟨h.1,fun xs w hs hn hr=>(h.2 xs w hs hn hr).mono fun x w' ⟨v,d,H1,he,s,ex,r,d',G,hl,k,hG⟩=>⟨v,d',G,he,s.sub hG,ex.trans (Ext.sub hG),hl _ _ _ ((Ext.sub hG).rel r),k⟩⟩
theorem DC.bodyS {P:Program} {f:FuncId} {fn:Func} {c:Code} {args:List V} {H:Own} {K:V->Own->Prop} (n_:Nat) (hf:P.funcs[f]? = some fn) (hb:fn.body=some c) (hn:(fn.name != "runtime.NumGoroutine")=true)
 (hN:args.length+(fn.ntmps - args.length)=n_) (h:DW P n_ c (retQ P fn fun d H'=>∃ d' G,le d d'/\K d' G/\SubP G H') (env0 0 args) H):DC P f args H K:=DC.sub (DC.bodyN n_ hf hb hn hN h)
section
variable {P:Program} {o:Oper} {f:Operand->V} {H:Own} {K:V->Own->Prop}
theorem DOp.callp_ {c:Operand} {args:Array Operand} {ts:Array TypeId} {k:FuncId} {first caps args':List V} {es:Own} {F:Own} {A:Prop} {K':V->Own->Prop} (hop:o.op = .call { callee:=.value c,args,argTypes:=ts }) (hc:f c = .fn (.func k) first caps)
  (hl:Les (first++args.toList.map f++caps) args') (hq:Pulled H es F) (h:A->DC P k args' (es++F) K') (hp:A/\∀ d H1,K' d H1->K d H1):DOp P o f H K :=
 DOp.call_ hop hc (DC.args hl ((DC.perm hq (h hp.1)).mono hp.2))
theorem DOp.callq_ {c:Operand} {args:Array Operand} {ts:Array TypeId} {k:FuncId} {first caps args':List V} {es F:Own} {A:Prop} {K':V->Prop} (hop:o.op = .call { callee:=.value c,args,argTypes:=ts }) (hc:f c = .fn (.func k) first caps)
  (hl:Les (first++args.toList.map f++caps) args') (hq:Pulled H es F) (h:A->DC P k args' (es++F) fun d G=>K' d/\G=es++F) (hp:A/\∀ d,K' d->K d H):DOp P o f H K :=
 DOp.call_ hop hc (DC.args hl ((DC.keep hq (h hp.1)).mono fun d G ⟨hd,hG⟩=>by subst hG;exact hp.2 d hd))
theorem zqe {P:Program} {sT xT:TypeId} {l xs:List V}:AppS P sT xT l xs↔(ty P sT).kind=4/\(ty P (ty P sT).elem).kind≠0/\(ty P (ty P sT).elem).kind≠11/\(ty P xT).kind≠0/\(ty P xT).kind≠11/\(ty P xT).kind≠2/\0<(ty P (ty P sT).elem).size /\
  (ty P (ty P sT).elem).zero.length=(ty P (ty P sT).elem).size/\(l.length+xs.length) * (ty P (ty P sT).elem).bytes<=140737488355328/\l.length+xs.length<=4611686018427387904/\(∀ y∈l,y.n=(ty P (ty P sT).elem).size)/\∀ y∈xs,y.n=(ty P (ty P sT).elem).size/\y.cs.all V.one=true :=
 ⟨fun ⟨a,b,c,d,e,f,g,h,i,j,k,l⟩=>⟨a,b,c,d,e,f,g,h,i,j,k,l⟩,fun ⟨a,b,c,d,e,f,g,h,i,j,k,l⟩=>⟨a,b,c,d,e,f,g,h,i,j,k,l⟩⟩
theorem zoU (x:V) (l d:List V) (i:Nat):layV (x::l) (i+1) d=x::layV l i d:=by simp [layV,Nat.add_right_comm]
theorem zqi (x y:V) (l d:List V):layV (x::l) 0 (y::d)=y::layV l 0 d:=by simp [layV]
theorem lay_nil (l:List V):layV l 0 []=l:=by simp [layV]
def flt {α:Type} (g:α->List V) (l:List α):List V:=(l.map g).flatten
section
variable {α:Type} {g:α->List V} {n:Nat}
end
def OnT (H:Own) (v:Value) (G:Nat->(Ent->Own)->Prop):Prop:=∃ sz,On H (.tail sz v) (G sz)
theorem OnT.here {H:Own} {sz:Nat} {v:Value} {G:Nat->(Ent->Own)->Prop} (h:G sz fun x=>x::H):OnT (.tail sz v::H) v G:=⟨sz,On.here h⟩
theorem OnT.next {H:Own} {v:Value} {y:Ent} {G:Nat->(Ent->Own)->Prop} (h:OnT H v fun sz C=>G sz fun x=>y::C x):OnT (y::H) v G:=by
 obtain ⟨sz,h⟩:=h
 exact ⟨sz,On.next h⟩
theorem DOp.appz_ {P:Program} {o:Oper} {f:Operand->V} {H:Own} {K:V->Own->Prop} {s x:Operand} {sT xT:TypeId} {v:Value} {l xs:List V} (hop:o.op = .call { callee:=.builtin .append,args:=#[s,x],argTypes:=#[sT,xT] }) (hfs:f s = .gs v l) (hfx:srcL (f x)=some xs)
  (h:OnT H v fun sz C=>((ty P (ty P sT).elem).size=sz/\AppS P sT xT l xs)/\∀ v',K (.gs v' (l++xs)) (C (.tail sz v'))):DOp P o f H K:=by
 obtain ⟨sz,L1,L2,rfl,⟨rfl,hA⟩,hk⟩:=h
 exact DOp.append_ (d:=.any) hop hfs hfx ⟨L1,L2,rfl,hA,hk⟩
end
section
variable {P:Program} {n:Nat} {Q:Exit->Env->Own->Prop} {e:Env} {H:Own}
theorem DW.loopS {X:Type} {c:Code} (I:X->Prop) (E:X->Env) (G:X->Own) (m:X->Nat) (x0:X) (h0:I x0) (he:Sub (E x0) e) (hH:SubP (G x0) H)
  (round:∀ x,I x->DW P n c (zfC (fun e' H'=>∃ x',I x'/\m x'<m x/\Sub (E x') e'/\SubP (G x') H') Q) (E x) (G x)):DW P n (.loop c) Q e H:=by
 intro a w hs hr b k cs
 have key:∀ N x a1 w1,m x=N->I x->Sim w1 (G x)->RE n w1 (G x) a1.tmps (E x)->Ext w H w1 (G x)->a1.defers=a.defers ->
   ∃ y a' w',(a'.defers=a.defers/\∃ e' H',Sim w' H'/\RE n w' H' a'.tmps e'/\Ext w H w' H'/\Q y e' H')/\Arrives P (lone (b.at a1 (.code c :: .inLoop c::k)) cs w1) b k cs y a' w':=by
  intro N
  induction N using Nat.strongRecOn with
  | _ N ih =>
   intro x a1 w1 hN hI hs1 hr1 hx1 hd1
   obtain ⟨y,a2,w2,⟨hd2,e2,H2,s2,r2,x2,q2⟩,harr⟩:=round x hI a1 w1 hs1 hr1 b (.inLoop c::k) cs
   cases y with
   | normal =>
    obtain ⟨x',i',lt',se,sh⟩:=q2
    have hx3:Ext w2 H2 w2 (G x'):=Ext.sub sh
    obtain ⟨y',a3,w3,hq3,harr3⟩:=ih (m x') (hN▸lt') x' a2 w2 rfl i' (s2.sub sh) ((r2.ext hx3).weak se.get) ((hx1.trans x2).trans hx3) (hd2.trans hd1)
    exact ⟨y',a3,w3,hq3, .of_steps (Steps.trans harr (.one step_inLoop)) harr3⟩
   | exit id=>exact ⟨_,a2,w2,⟨hd2.trans hd1,e2,H2,s2,r2,hx1.trans x2,q2⟩, .pass (x:=.inLoop c) rfl (fun _ _=>.inl (by simp)) harr⟩
   | goto l=>exact ⟨_,a2,w2,⟨hd2.trans hd1,e2,H2,s2,r2,hx1.trans x2,q2⟩, .pass (x:=.inLoop c) rfl (fun _ _=>.inl (by simp)) harr⟩
   | ret=>exact ⟨_,a2,w2,⟨hd2.trans hd1,e2,H2,s2,r2,hx1.trans x2,q2⟩, .pass (x:=.inLoop c) rfl (fun _ _=>.inl (by simp)) harr⟩
   | panic ch=>exact ⟨_,a2,w2,⟨hd2.trans hd1,e2,H2,s2,r2,hx1.trans x2,q2⟩, .pass (x:=.inLoop c) rfl (fun _ _=>.inl (by simp)) harr⟩
   | outgrown=>exact ⟨_,a2,w2,⟨hd2.trans hd1,e2,H2,s2,r2,hx1.trans x2,q2⟩, .pass (x:=.inLoop c) rfl (fun _ _=>.inl (by simp)) harr⟩
 have hx0:Ext w H w (G x0):=Ext.sub hH
 obtain ⟨y,a',w',hq,harr⟩:=key _ x0 a w rfl h0 (hs.sub hH) ((hr.ext hx0).weak he.get) hx0 rfl
 exact ⟨y,a',w',hq, .of_steps (.one step_loop) harr⟩
theorem DW.loopP {X:Type} {c:Code} (I:X->Prop) (E:X->Env) (G:X->Own) (m:X->Nat) (x0:X) (h0:I x0) (he:Sub (E x0) e)
  (hp:Pull H (G x0) fun F=>∀ x,I x->DW P n c (zfC (fun e' H'=>∃ x',I x'/\m x'<m x/\Sub (E x') e'/\SubP (G x'++F) H') Q) (E x) (G x++F)):DW P n (.loop c) Q e H:=by
 obtain ⟨F,h1,h2⟩:=hp
 exact DW.loopS I E (fun x=>G x++F) m x0 h0 he (SubP.perm h1 .refl) h2
theorem DW.tail0 (sz:Nat) {c:Code} (h:DW P n c Q e (.tail sz (.slice none 0 0)::H)):DW P n c Q e H:=fun a w hs hr=>by
 obtain ⟨g1,g2⟩:=hs.tail0 sz
 exact wp_mono (h a w g1 (hr.ext g2)) fun x a1 w1 ⟨hd,e1,H1,s,r,x1,q⟩=>⟨hd,e1,H1,s,r,g2.trans x1,q⟩
theorem DVop.callq_ {mv tm:List Nat} {ops:Array Oper} {K:Env->Own->Prop} {i:Nat} {o:Oper} {rest:List Oper} {c:Operand} {args:Array Operand} {ts:Array TypeId} {k:FuncId} {first caps args':List V} {es F:Own} {A:Prop} {d:V}
  (hm:mv.contains i=false) (ht:tm.contains i=true) (hop:o.op = .call { callee:=.value c,args,argTypes:=ts }) (hc:opd e c = .fn (.func k) first caps)
  (hl:Les (first++args.toList.map (opd e)++caps) args') (hq:Pulled H es F) (h1:A->DC P k args' (es++F) fun d' H'=>d'=d/\H'=es++F)
  (hp:A/\FD P (mv++tm) ops (fun i' l' e'=>DV P mv tm ops K i' l' e' H) (i+1) rest (putO e o.dst d)):DVop P mv tm ops K i o rest e H :=
 DVop.call_ hm ht hop hc (DC.args hl (DC.keep hq (h1 hp.1))) hp.2
end
end Go.Proofs.YtgekknefphagbaaGreatDoor
namespace Go.Proofs.YtgekknefphagbaaGreatDoor
open Go.RowKit
set_option linter.unusedSimpArgs false
set_option linter.unusedVariables false
set_option linter.unusedSectionVars false
def cells (l:List V):List V:=(l.map V.cs).flatten
theorem zao:cells []=[]:=rfl
theorem zbc (d:V) (l:List V):cells (d::l)=d.cs++cells l:=rfl
theorem zb2 (l m:List V):cells (l++m)=cells l++cells m:=by simp [cells]
theorem zdZ {sz:Nat}:∀ l:List V,(∀ y∈l,y.n=sz)->(cells l).length=l.length * sz
 | [],_=>by simp [zao]
 | d::l,h=>by
  rw [zbc,List.length_append,zdZ l fun y hy=>h y (List.mem_cons_of_mem _ hy),cs_n,h d (by simp),List.length_cons,Nat.add_mul];omega
theorem zfO {sz:Nat}:∀ (l:List V) (i k:Nat),(∀ y∈l,y.n=sz)->i<l.length->k<sz->(cells l).getD (i * sz+k) .any=(l.getD i .any).cell k
 | [],i,k,_,h,_=>absurd h (Nat.not_lt_zero _)
 | d::l,0,k,h,_,hk=>by
  have hd:d.cs.length=sz:=by rw [cs_n,h d (by simp)]
  rw [zbc,Nat.zero_mul,Nat.zero_add,List.getD_eq_getElem?_getD,List.getElem?_append_left (by omega),<-List.getD_eq_getElem?_getD,List.getD_cons_zero,zhV d k (by omega)]
 | d::l,i+1,k,h,hi,hk=>by
  have hd:d.cs.length=sz:=by rw [cs_n,h d (by simp)]
  have:=zfO l i k (fun y hy=>h y (List.mem_cons_of_mem _ hy)) (by simpa using hi) hk
  rw [zbc,List.getD_cons_succ,<-this,List.getD_eq_getElem?_getD,List.getElem?_append_right (by rw [Nat.add_mul];omega),<-List.getD_eq_getElem?_getD,hd]
  congr 1
  rw [Nat.add_mul];omega
def OnA (H:Own) (v:Value) (G:Nat->List V->(Ent->Own)->Prop):Prop:=∃ sz cs,On H (.arr sz v cs) (G sz cs)
theorem OnA.here {H:Own} {sz:Nat} {v:Value} {cs:List V} {G:Nat->List V->(Ent->Own)->Prop} (h:G sz cs fun x=>x::H):OnA (.arr sz v cs::H) v G:=⟨sz,cs,On.here h⟩
theorem OnA.next {H:Own} {v:Value} {y:Ent} {G:Nat->List V->(Ent->Own)->Prop} (h:OnA H v fun sz cs C=>G sz cs fun x=>y::C x):OnA (y::H) v G:=by
 obtain ⟨sz,cs,h⟩:=h
 exact ⟨sz,cs,On.next h⟩
theorem zcU {w:World} {L1 L2:Own} {sz n cap:Nat} {p:Addr} {cs:List V} (hs:Sim w (L1 ++ .arr sz (.slice (some p) n cap) cs::L2)) (hcz:cap≠0):p.spot=none/\n<=cap/\cs.length=n * sz/\∃ xs T fr,w.heap[p.block]? = some (.cells xs T fr)/\free2 sz fr p.off (p.off+cap * sz)/\p.off+cap * sz<=xs.size /\
  (∀ k,k<cs.length->R (stable w (L1 ++ .arr sz (.slice (some p) n cap) cs::L2)) w (xs.getD (p.off+k) undef) (cs.getD k .any)) /\
  (∀ k,p.off<=k->k<p.off+cap * sz->w.cell? ⟨p.block,k,none⟩=some (xs.getD k undef)/\w.frozen? ⟨p.block,k,none⟩=false)/\cs.length<=cap * sz:=by
 obtain ⟨h1,h2,hh⟩:=hs.holds (.arr sz (.slice (some p) n cap) cs) (by simp)
 obtain ⟨h0,xs,T,fr,h3,h4,h5,h6⟩:=hh hcz
 refine ⟨h0,h1,h2,xs,T,fr,h3,h4,h5,h6,fun k hk hk'=>⟨?_,?_⟩,by rw [h2];exact Nat.mul_le_mul_right _ h1⟩
 · have hk':k<xs.size:=by omega
   simp [World.cell?,h3,Array.getD_eq_getD_getElem?,hk']
 · exact zim h3 (h4.1.at k hk hk')
section
variable {P:Program} {o:Oper} {f:Operand->V} {H:Own} {K:V->Own->Prop}
theorem DOp.loada_ {t:TypeId} {x:Operand} {v:Value} {k:Nat} (hop:o.op = .load t x) (hx:f x = .ep v k) (h:OnA H v fun _ cs _=>((ty P t).size≠0/\zdO (ty P t) (cs.drop k) 0)/\K (zcw (ty P t) (cs.drop k) 0) H):DOp P o f H K:=by
 obtain ⟨sz,cs,L1,L2,rfl,⟨hz0,hp⟩,hk⟩:=h
 refine DOp.step fun a w hs hr=>?_
 have hv:=hr x kxcl
 rw [hx] at hv
 generalize hva:a.eval x=u at hv
 cases hv with
 | ep b n cap k =>
  have hcz:cap≠0:=fun e=>by
   obtain ⟨q1,q2,_⟩:=hs.holds (.arr sz (.slice (some b) n cap) cs) (by simp)
   have hn0:n=0:=by omega
   have hc0:cs=[]:=List.eq_nil_of_length_eq_zero (by rw [q2,hn0,Nat.zero_mul])
   have:=hp.2.2
   rw [hc0] at this
   simp at this
   omega
  obtain ⟨s0,hnc,hl,xs,T,fr,h1,h2,h3,h4,h5,h6⟩:=zcU hs hcz
  have hva:a.eval x = .pointer (some ⟨b.block,b.off+k,none⟩):=by rw [hva,zbn b k s0]
  obtain ⟨v,e1,e2⟩:=zcY (P:=P) (S:=stable w (L1 ++ .arr sz (.slice (some b) n cap) cs::L2)) (w:=w) (t:=t) (b:=⟨b.block,b.off+k,none⟩) (cs:=cs.drop k) rfl (fun j hj=>by
   rw [List.length_drop] at hj
   simp only
   rw [(h5 (b.off+k+j) (by omega) (by omega)).1];rfl) (fun j hj=>by
   rw [List.length_drop] at hj
   have:=h4 (k+j) (by omega)
   simp only
   rw [zbb,(h5 (b.off+k+j) (by omega) (by omega)).1]
   simpa [List.getD_eq_getElem?_getD,List.getElem?_drop,Nat.add_assoc] using this) hp
  refine ⟨v,w,_,_,?_,⟨hs, .refl _ _⟩,e2,hk⟩
  unfold execOp
  rw [hop]
  simp [Instr.loadAt,hva,Instr.sureAddr,e1]
theorem DOp.storea_ {t:TypeId} {p x:Operand} {v:Value} {off:Nat} (hop:o.op = .store t p x) (hp:f p = .ep v off)
  (h:OnA H v fun sz cs C=>(f x).solid=true/\(f x).cs.all V.one=true/\(ty P t).kind≠0/\(ty P t).kind≠11/\(ty P t).size≠0/\(f x).cs.length=(ty P t).size/\off+(ty P t).size<=cs.length/\K .any (C (.arr sz v (layV cs off (f x).cs)))):DOp P o f H K:=by
 obtain ⟨sz,cs,L1,L2,rfl,h1,h2,h3,h4,hz0,h5,h6,hk⟩:=h
 refine DOp.skip_ fun a w hs hr=>?_
 have hv:=hr p kxcl
 rw [hp] at hv
 have hx:=hr x kxcl
 obtain ⟨c1,c2⟩:=hx.solid h1
 generalize hva:a.eval p=u at hv
 cases hv with
 | ep b n cap off =>
 have hcz:cap≠0:=fun e=>by
  obtain ⟨q1,q2,_⟩:=hs.holds (.arr sz (.slice (some b) n cap) cs) (by simp)
  have hn0:n=0:=by omega
  rw [hn0,Nat.zero_mul] at q2
  omega
 obtain ⟨s0,hnc,hl,xs,T,fr,g1,g2,g3,g4,g5,g6⟩:=zcU hs hcz
 have hva:a.eval p = .pointer (some ⟨b.block,b.off+off,none⟩):=by rw [hva,zbn b off s0]
 obtain ⟨bb,bo,bsp⟩:=b
 simp only at s0
 subst s0
 simp only at *
 have hone:∀ u∈(a.eval x).cells.toList,u.oneCell'=true:=fun u hu=>by
  obtain ⟨i,hi,rfl⟩:=List.getElem_of_mem hu
  have hi':i<(a.eval x).cells.size:=by simpa using hi
  have:=c2 i (by omega)
  have h1':=List.all_eq_true.1 h2 ((f x).cs[i]'(by omega)) (List.getElem_mem _)
  have e:(f x).cs.getD i .any=(f x).cs[i]'(by omega):=by
   have:i<(f x).cs.length:=by omega
   simp [List.getD_eq_getElem?_getD,this]
  rw [e] at this
  have:=ze3 this h1'
  simpa [Array.getD_eq_getD_getElem?,hi'] using this
 have hrun:=run_storeCells_cells (P:=P) bb (bo+off) (a.eval x).cells.toList 0 w (fun j hj=>by
  simp only [Array.length_toList] at hj
  rw [Nat.add_zero,(g5 (bo+off+j) (by omega) (by omega)).1];rfl) (fun j hj=>by
  simp only [Array.length_toList] at hj
  rw [Nat.add_zero];exact (g5 (bo+off+j) (by omega) (by omega)).2) hone
 rw [Nat.add_zero] at hrun
 obtain ⟨ys,y1,y2,y3⟩:=zcg bb (a.eval x).cells.toList (bo+off) w xs T fr g1 (by simp;omega)
 obtain ⟨r1,r2,r3⟩:=zbQ bb (a.eval x).cells.toList (bo+off) w
 obtain ⟨l1,l2⟩:=zkT cs (f x).cs off (by omega)
 refine ⟨w.setCells bb (bo+off) (a.eval x).cells.toList,_,?_,Sim.swap hs (e1:=.arr sz (.slice (some ⟨bb,bo,none⟩) n cap) (layV cs off (f x).cs)) r1 r2 r3 kxcc (fun k hk hn=>zbE bb _ _ _ k fun e=>hn ⟨e,hcz⟩) (fun q hq hn=>World.cell?_setCells_out bb _ _ _ q fun e1 e2=>by
   have hn':¬ (q.block=bb/\bo<=q.off/\q.off<bo+cap * sz):=hn
   simp only [Array.length_toList]
   omega)
  (fun k h=>.inl h) (fun q h=>.inl h) (fun hst=>?_),hk⟩
 · unfold execOp
   rw [hop]
   simp [Instr.storeAt,hva,Instr.sureAddr,storeVar,za4 h3 h4,c1,h5,hrun]
 · refine ⟨hnc,by rw [l1];exact hl,fun _=>⟨rfl,ys,T,fr,y1,g2,by rw [y2];exact g3,fun k hk=>?_⟩⟩
   simp only
   rw [y3 (bo+k),l2 k]
   rw [l1] at hk
   simp only [Array.length_toList]
   by_cases hk':off<=k/\k<off+(f x).cs.length
   · rw [if_pos hk',if_pos (by omega)]
     have:=(c2 (k - off) (by omega)).mono hst
     rw [show bo+k - (bo+off)=k - off by omega]
     simpa [Array.getD_eq_getD_getElem?,List.getD_eq_getElem?_getD] using this
   · rw [if_neg hk',if_neg (by omega)]
     exact (g4 k hk).mono hst
end
theorem Sim.frz {w:World} {L1 L2:Own} {sz:Nat} {v:Value} {l:List V} (hs:Sim w (L1 ++ .arr sz v (cells l)::L2)) (hz:0<sz) (hl:∀ y∈l,y.n=sz) :
  (Sim w (L1 ++ .tail sz v::L2)/\Ext w (L1 ++ .arr sz v (cells l)::L2) w (L1 ++ .tail sz v::L2))/\R (stable w (L1 ++ .tail sz v::L2)) w v (.gs v l):=by
 have hh:=hs.holds (.arr sz v (cells l)) (by simp)
 have hlen:=zdZ l hl
 cases v with
 | slice a n cap =>
  cases a with
  | none =>
   obtain ⟨rfl,rfl,h0⟩:=hh
   refine ⟨Sim.swap hs (e1:=.tail sz (.slice none 0 0)) rfl rfl rfl (Nat.le_refl _) (fun _ _ _=>rfl) (fun _ _ _=>rfl) (fun b h=>h.elim) (fun q h=>h.elim) (fun _=>⟨rfl,rfl⟩),?_⟩
   have h1:l.length * sz=0:=by rw [<-hlen,h0];rfl
   have:l=[]:=by
    rcases Nat.mul_eq_zero.1 h1 with h | h
    · exact List.eq_nil_of_length_eq_zero h
    · omega
   subst this
   exact R.nil _ _
  | some p =>
   by_cases hcz:cap=0
   · subst hcz
     obtain ⟨q1,q2,_⟩:=hh
     have hn0:n=0:=by omega
     subst hn0
     have h1:l.length * sz=0:=by rw [<-hlen,q2,Nat.zero_mul]
     have:l=[]:=by
      rcases Nat.mul_eq_zero.1 h1 with h | h
      · exact List.eq_nil_of_length_eq_zero h
      · omega
     subst this
     refine ⟨Sim.swap hs (e1:=.tail sz (.slice (some p) 0 0)) rfl rfl rfl (Nat.le_refl _) (fun _ _ _=>rfl) (fun _ _ _=>rfl) (fun b h=>absurd rfl h.2) (fun q h=>by
      have h':q.block=p.block/\p.off+0 * sz<=q.off/\q.off<p.off+0 * sz:=h
      omega) (fun _=>⟨Nat.le_refl _,fun h=>absurd rfl h⟩),?_⟩
     exact .gs _ _ (.sl _ 0 0 [] sz rfl (Nat.le_refl _) (fun h=>nomatch h) (fun _ _ h=>absurd rfl h) (fun _ h=>absurd h (Nat.not_lt_zero _)) (fun _ _ _ _ h=>absurd h (Nat.not_lt_zero _)) (fun _ _ _ _ h=>absurd h (Nat.not_lt_zero _)))
   obtain ⟨s0,hnc,h2,xs,T,fr,h3,h4,h5,h6,h7,h8⟩:=zcU hs hcz
   have hln:l.length=n:=Nat.eq_of_mul_eq_mul_right hz (by rw [<-hlen,h2])
   subst hln
   have hsub:∀ q,Ent.owns (.tail sz (.slice (some p) l.length cap)) q->Ent.owns (.arr sz (.slice (some p) l.length cap) (cells l)) q:=fun q h=>by
    have h':q.block=p.block/\p.off+l.length * sz<=q.off/\q.off<p.off+cap * sz:=h
    exact ⟨h'.1,by omega,h'.2.2⟩
   have hsw:=Sim.swap hs (e1:=.tail sz (.slice (some p) l.length cap)) rfl rfl rfl (Nat.le_refl _) (fun _ _ _=>rfl) (fun _ _ _=>rfl) (fun b h=>.inl h) (fun q h=>.inl (hsub q h)) (fun _=>⟨hnc,fun _=>⟨s0,xs,T,fr,h3,h4.1,h5⟩⟩)
   refine ⟨hsw, .gs _ _ (.sl _ _ _ _ sz rfl hnc (fun h=>nomatch h) (fun b hb _=>by injection hb with hb;subst hb;exact s0) (fun i hi=>?_) (fun b i k hb hi hk=>?_) (fun b i k hb hi hk=>?_))⟩
   · rw [show l.getD i .any=l[i] by simp [List.getD_eq_getElem?_getD,hi]];exact hl _ (List.getElem_mem hi)
   · injection hb with hb;subst hb
     have h1:=zeL hi hk
     refine ⟨by rw [(h7 (p.off+i * sz+k) (by omega) (by omega)).1];rfl,fun e he ho=>?_⟩
     have hap:=hs.apart
     rw [List.pairwise_append,List.pairwise_cons] at hap
     obtain ⟨p1,⟨p2,p3⟩,p4⟩:=hap
     have htb:Ent.touches (.arr sz (.slice (some p) l.length cap) (cells l)) p.block:=⟨rfl,hcz⟩
     rcases List.mem_append.1 he with he | he
     · exact p4 e he _ (by simp) p.block (Ent.touch (a:=⟨p.block,p.off+i * sz+k,none⟩) ho) htb
     · rcases List.mem_cons.1 he with he | he
       · subst he
         have ho':p.block=p.block/\p.off+l.length * sz<=p.off+i * sz+k/\p.off+i * sz+k<p.off+cap * sz:=ho
         omega
       · exact p2 e he p.block htb (Ent.touch (a:=⟨p.block,p.off+i * sz+k,none⟩) ho)
   · injection hb with hb;subst hb
     have h1:=zeL hi hk
     rw [zbb,(h7 (p.off+i * sz+k) (by omega) (by omega)).1,Option.getD_some,<-zfO l i k hl hi hk,Nat.add_assoc]
     exact hsw.2.rel (h6 _ (by omega))
 | _=>exact hh.elim
inductive Cv (v:Value) (l:List V):V->V->Prop
 | rfl (d:V):Cv v l d d
 | hit (n:Nat):Cv v l (.ar v n) (.gs v l)
 | agg (cs ds:List V) (hn:cs.length=ds.length) (h:∀ k,k<cs.length->Cv v l (cs.getD k .any) (ds.getD k .any)):Cv v l (.agg cs) (.agg ds)
 | tup (cs ds:List V) (hn:cs.length=ds.length) (h:∀ k,k<cs.length->Cv v l (cs.getD k .any) (ds.getD k .any)):Cv v l (.tup cs) (.tup ds)
inductive CvL (v:Value) (l:List V):List V->List V->Prop
 | nil:CvL v l [] []
 | cons {a b:V} {x y:List V} (h:Cv v l a b) (t:CvL v l x y):CvL v l (a::x) (b::y)
theorem CvL.len {v:Value} {l x y:List V} (h:CvL v l x y):x.length=y.length:=by induction h with | nil=>rfl | cons _ _ ih=>simp [ih]
theorem CvL.at {v:Value} {l x y:List V} (h:CvL v l x y) (k:Nat):Cv v l (x.getD k .any) (y.getD k .any):=by
 induction h generalizing k with
 | nil=>exact .rfl _
 | cons h t ih=>cases k with
  | zero=>exact h
  | succ k=>exact ih k
theorem Cv.aggL {v:Value} {l cs ds:List V} (h:CvL v l cs ds):Cv v l (.agg cs) (.agg ds):=.agg _ _ h.len fun k _=>h.at k
theorem Cv.tupL {v:Value} {l cs ds:List V} (h:CvL v l cs ds):Cv v l (.tup cs) (.tup ds):=.tup _ _ h.len fun k _=>h.at k
theorem R.cv {S:Addr->Prop} {w:World} {v:Value} {l:List V} (hv:R S w v (.gs v l)):∀ {d d':V},Cv v l d d'->∀ {u:Value},R S w u d->R S w u d':=by
 intro d d' h
 induction h with
 | rfl d=>exact fun h=>h
 | hit n=>intro u h;cases h;exact hv
 | agg cs ds hn _ ih=>intro u h;cases h with | agg xs _ h1 h2=>exact .agg _ _ (h1.trans hn) fun k hk=>ih k (by omega) (h2 k (by omega))
 | tup cs ds hn _ ih=>intro u h;cases h with | tup xs _ h1 h2=>exact .tup _ _ (h1.trans hn) fun k hk=>ih k (by omega) (h2 k (by omega))
inductive CvE (v:Value) (l:List V):Env->Env->Prop
 | nil:CvE v l [] []
 | cons {k:Nat} {a b:V} {x y:Env} (h:Cv v l a b) (t:CvE v l x y):CvE v l ((k,a)::x) ((k,b)::y)
theorem CvE.get {v:Value} {l:List V} {e e':Env} (h:CvE v l e e') (t:Nat):Cv v l (get e t) (get e' t):=by
 induction h with
 | nil=>exact .rfl _
 | cons h _ ih =>
  simp only [Go.Proofs.YtgekknefphagbaaGreatDoor.get]
  split
  · exact h
  · exact ih
theorem Sim.arr0 {w:World} {H:Own} (sz:Nat) (hs:Sim w H):Sim w (.arr sz (.slice none 0 0) []::H)/\Ext w H w (.arr sz (.slice none 0 0) []::H) :=
 hs.add rfl rfl rfl (Nat.le_refl _) (fun _ _=>rfl) (fun _ h=>h.elim) fun _=>⟨rfl,rfl,rfl⟩
theorem DW.own0 (sz:Nat) (t:Nat) {P:Program} {n:Nat} {Q:Exit->Env->Own->Prop} {e:Env} {H:Own} {c:Code} (ht:get e t = .gs (.slice none 0 0) [])
  (h:DW P n c Q (put e t (.ar (.slice none 0 0) 0)) (.arr sz (.slice none 0 0) []::H)):DW P n c Q e H:=fun a w hs hr=>by
 obtain ⟨g1,g2⟩:=hs.arr0 sz
 refine wp_mono (h a w g1 ⟨hr.size,fun u=>?_⟩) fun x a1 w1 ⟨hd,e1,H1,s,r,x1,q⟩=>⟨hd,e1,H1,s,r,g2.trans x1,q⟩
 by_cases hu:u=t
 · subst hu
   rw [zcf]
   have:=hr.slot u
   rw [ht] at this
   generalize a.tmps.getD u undef=y at this ⊢
   cases this
   exact .ar _ _ _ (Nat.le_refl _) (fun _=>rfl)
 · rw [zcR _ _ _ _ hu]
   exact g2.rel (hr.slot u)
structure AppA (P:Program) (sT xT:TypeId) (n:Nat) (xs:List V):Prop where
 k:(ty P sT).kind=4
 e0:(ty P (ty P sT).elem).kind≠0
 e1:(ty P (ty P sT).elem).kind≠11
 x0:(ty P xT).kind≠0
 x1:(ty P xT).kind≠11
 x2:(ty P xT).kind≠2
 pos:0<(ty P (ty P sT).elem).size
 zero:(ty P (ty P sT).elem).zero.length=(ty P (ty P sT).elem).size
 room:(n+xs.length) * (ty P (ty P sT).elem).bytes<=140737488355328
 len:n+xs.length<=4611686018427387904
 new:∀ y∈xs,y.n=(ty P (ty P sT).elem).size/\y.cs.all V.one=true
theorem zpq {P:Program} {sT xT:TypeId} {n:Nat} {xs:List V}:AppA P sT xT n xs↔(ty P sT).kind=4/\(ty P (ty P sT).elem).kind≠0/\(ty P (ty P sT).elem).kind≠11/\(ty P xT).kind≠0/\(ty P xT).kind≠11/\(ty P xT).kind≠2/\0<(ty P (ty P sT).elem).size /\
  (ty P (ty P sT).elem).zero.length=(ty P (ty P sT).elem).size/\(n+xs.length) * (ty P (ty P sT).elem).bytes<=140737488355328/\n+xs.length<=4611686018427387904/\∀ y∈xs,y.n=(ty P (ty P sT).elem).size/\y.cs.all V.one=true :=
 ⟨fun ⟨a,b,c,d,e,f,g,h,i,j,l⟩=>⟨a,b,c,d,e,f,g,h,i,j,l⟩,fun ⟨a,b,c,d,e,f,g,h,i,j,l⟩=>⟨a,b,c,d,e,f,g,h,i,j,l⟩⟩
section
variable {P:Program} {o:Oper} {f:Operand->V} {H:Own} {K:V->Own->Prop}
theorem DOp.appa_ {s x:Operand} {sT xT:TypeId} {v:Value} {n:Nat} {xs:List V} (hop:o.op = .call { callee:=.builtin .append,args:=#[s,x],argTypes:=#[sT,xT] }) (hfs:f s = .ar v n) (hfx:srcL (f x)=some xs)
  (h:OnA H v fun sz cs C=>sz=(ty P (ty P sT).elem).size/\AppA P sT xT n xs/\∀ v',K (.ar v' (n+xs.length)) (C (.arr sz v' (cs++cells xs)))):DOp P o f H K:=by
 obtain ⟨sz,cs,L1,L2,rfl,rfl,hA,hk⟩:=h
 generalize hE:(ty P sT).elem=E at *
 refine DOp.step fun a w hs hr=>?_
 have hS:∀ q,stable w (L1 ++ .arr (ty P E).size v cs::L2) q->(w.cell? q).isSome=true:=fun q hq=>hq.1
 have hvs:=hr s kxb6
 rw [hfs] at hvs
 generalize hvv:a.eval s=u at hvs
 cases hvs with
 | ar base n cap hcap hnil =>
 obtain ⟨hA0,hA1,hA2,hA3,hA4,hA5,hA6,hA7,hA8,hA9,hA11⟩:=hA
 rw [hE] at hA1 hA2 hA6 hA7 hA8 hA11
 generalize hsz:(ty P E).size=sz at *
 obtain ⟨x1,news,x2,x3,x4⟩:=zhM (P:=P) hS (hr x kxb6) hfx (fun y hy=>(hA11 y hy).1)
 have hcx:=zdZ xs fun y hy=>(hA11 y hy).1
 have split:∀ j,j<xs.length * sz->j / sz<xs.length/\j%sz<sz/\j / sz * sz+j%sz=j:=fun j hj =>
  ⟨Nat.div_lt_of_lt_mul (by rw [Nat.mul_comm];exact hj),Nat.mod_lt j hA6,by rw [Nat.mul_comm];exact Nat.div_add_mod j sz⟩
 have flat:∀ (S:Addr->Prop) (W:World) (nw:List Value),(∀ i k,i<xs.length->k<sz->R S W (nw.getD (i * sz+k) undef) ((xs.getD i .any).cell k))->∀ j,j<xs.length * sz->R S W (nw.getD j undef) ((cells xs).getD j .any):=fun S W nw hx j hj=>by
  obtain ⟨q1,q2,q3⟩:=split j hj
  have:=hx _ _ q1 q2
  rw [<-zfO xs (j / sz) (j%sz) (fun y hy=>(hA11 y hy).1) q1 q2,q3] at this
  exact this
 have hu:=zaT hA0
 rw [hE] at hu
 have hEsz:(sizeOf E).run P w = .ok sz w:=by rw [za4 hA1 hA2,hsz]
 obtain ⟨dx,hdx,hdi⟩:=znq (w:=w) hA3 hA4 hA5
 have hm:(dx matches .int _)=false:=by cases dx<;>first | rfl | exact absurd rfl (hdi _)
 by_cases hfit:n+xs.length<=cap
 ·
   cases base with
   | none =>
    have hc0:=hnil rfl
    have hh:=hs.holds (.arr sz (.slice none n cap) cs) (by simp)
    obtain ⟨t1,t2,t3⟩:=hh
    subst t1
    subst t2
    subst t3
    have hx0:xs=[]:=List.eq_nil_of_length_eq_zero (by omega)
    subst hx0
    refine ⟨_,w, .ar (.slice none 0 0) 0,_,?_,⟨hs, .refl _ _⟩, .ar _ _ _ (Nat.le_refl _) (fun _=>rfl),by simpa [cells] using hk (.slice none 0 0)⟩
    unfold execOp
    rw [hop]
    have hn0:news=[]:=List.eq_nil_of_length_eq_zero (by simpa using x3)
    subst hn0
    have x1':(Builtin.lenOf (a.eval x)).run P w = .ok 0 w:=x1
    have x2':(Builtin.firstCells sz 0 (a.eval x)).run P w = .ok #[] w:=x2
    simp [resolve,invoke,Go.builtin,Builtin.append_,hvv,run_underlying hu,run_underlying hdx,hm,hEsz,x1',x2']
   | some b =>
    by_cases hcz:cap=0
    · subst hcz
      obtain ⟨q1,q2,_⟩:=hs.holds (.arr sz (.slice (some b) n 0) cs) (by simp)
      have hn0:n=0:=by omega
      subst hn0
      have hc0:cs=[]:=List.eq_nil_of_length_eq_zero (by rw [q2,Nat.zero_mul])
      subst hc0
      have hx0:xs=[]:=List.eq_nil_of_length_eq_zero (by omega)
      subst hx0
      have hnw:news=[]:=List.eq_nil_of_length_eq_zero (by simpa using x3)
      subst hnw
      refine ⟨_,w, .ar (.slice (some b) 0 0) 0,_,?_,⟨hs, .refl _ _⟩, .ar _ _ _ (Nat.le_refl _) (fun h=>nomatch h),by simpa [cells] using hk (.slice (some b) 0 0)⟩
      unfold execOp
      rw [hop]
      have x1':(Builtin.lenOf (a.eval x)).run P w = .ok 0 w:=x1
      have x2':(Builtin.firstCells sz 0 (a.eval x)).run P w = .ok #[] w:=x2
      simp [resolve,invoke,Go.builtin,Builtin.append_,hvv,run_underlying hu,run_underlying hdx,hm,hEsz,x1',x2',storeCells]
    obtain ⟨s0,hnc,hl,ys,T,fr,g1,g2,g3,g4,g5,g6⟩:=zcU hs hcz
    obtain ⟨bb,bo,bs'⟩:=b
    simp only at s0
    subst s0
    simp only at g1 g2 g3 g4 g5
    have hone:∀ u∈news,u.oneCell'=true:=fun u hu'=>by
     obtain ⟨j,hj,rfl⟩:=List.getElem_of_mem hu'
     rw [x3] at hj
     obtain ⟨hi,hm',hjj⟩:=split j hj
     have:=x4 (j / sz) (j%sz) hi hm'
     rw [hjj] at this
     have hin:=hA11 _ (List.getElem_mem hi)
     have e:xs.getD (j / sz) .any=xs[j / sz]:=by simp [List.getD_eq_getElem?_getD,hi]
     rw [e] at this
     have hlt:j%sz<(xs[j / sz]).cs.length:=by rw [cs_n,hin.1];exact hm'
     rw [zhV _ _ hlt] at this
     have e2:(xs[j / sz]).cs.getD (j%sz) .any=(xs[j / sz]).cs[j%sz]:=by simp [List.getD_eq_getElem?_getD,hlt]
     rw [e2] at this
     have h1:=ze3 this (List.all_eq_true.1 hin.2 _ (List.getElem_mem hlt))
     have e3:news.getD j undef=news[j]'(by rw [x3];exact hj):=by simp [List.getD_eq_getElem?_getD,x3,hj]
     rw [e3] at h1
     exact h1
    have hmul:n * sz+xs.length * sz<=cap * sz:=by rw [<-Nat.add_mul];exact Nat.mul_le_mul_right _ hfit
    have hrun:=run_storeCells_cells (P:=P) bb (bo+n * sz) news 0 w (fun j hj=>by
     rw [Nat.add_zero,(g5 (bo+n * sz+j) (by omega) (by omega)).1];rfl) (fun j hj=>by
     rw [Nat.add_zero];exact (g5 (bo+n * sz+j) (by omega) (by omega)).2) hone
    rw [Nat.add_zero] at hrun
    obtain ⟨zs,z1,z2,z3⟩:=zcg bb news (bo+n * sz) w ys T fr g1 (by omega)
    obtain ⟨r1,r2,r3⟩:=zbQ bb news (bo+n * sz) w
    have hsw:=Sim.swap (w':=w.setCells bb (bo+n * sz) news) hs (e1:=.arr sz (.slice (some ⟨bb,bo,none⟩) (n+xs.length) cap) (cs++cells xs)) r1 r2 r3 kxcc
     (fun k hk hn=>zbE bb _ _ _ k fun e=>hn ⟨e,hcz⟩) (fun q hq hn=>World.cell?_setCells_out bb _ _ _ q fun e1 e2=>by
       have hn':¬ (q.block=bb/\bo<=q.off/\q.off<bo+cap * sz):=hn
       omega)
     (fun k h=>.inl h) (fun q h=>.inl h) (fun hst=>by
       refine ⟨hfit,by rw [List.length_append,hl,hcx,Nat.add_mul],fun _=>⟨rfl,zs,T,fr,z1,g2,by rw [z2];exact g3,fun k hk=>?_⟩⟩
       simp only
       rw [z3]
       rw [List.length_append,hcx] at hk
       by_cases hkc:k<cs.length
       · rw [if_neg (by omega),List.getD_eq_getElem?_getD,List.getElem?_append_left hkc,<-List.getD_eq_getElem?_getD]
         exact (g4 k hkc).mono hst
       · rw [if_pos (by omega),List.getD_eq_getElem?_getD (l:=cs++cells xs),List.getElem?_append_right (by omega),<-List.getD_eq_getElem?_getD]
         rw [show bo+k - (bo+n * sz)=k - cs.length by omega]
         exact (flat _ _ news x4 (k - cs.length) (by omega)).mono hst)
    refine ⟨_,_, .ar (.slice (some ⟨bb,bo,none⟩) (n+xs.length) cap) (n+xs.length),_,?_,hsw, .ar _ _ _ hfit (fun h=>nomatch h),hk _⟩
    unfold execOp
    rw [hop]
    have hadd:(⟨bb,bo,none⟩:Addr).add (n * sz)=⟨bb,bo+n * sz,none⟩:=zbn _ _ rfl
    simp [resolve,invoke,Go.builtin,Builtin.append_,hvv,run_underlying hu,run_underlying hdx,hm,hEsz,x1,x2,hfit,hadd,hrun]
 ·
   have hneed:cap<n+xs.length:=by omega
   have hgrow:=growslice_fits hneed hA8
   obtain ⟨i,d',hi,_,_,_,hby,hz⟩:=zcF (t:=E) rfl hA1 hA2
   cases hzz:i.zero with
   | none=>rw [hzz] at hz;simp [hz] at hA7;omega
   | some z =>
    obtain ⟨zr1,zr2⟩:=zdf (P:=P) (S:=stable w (L1 ++ .arr sz (.slice base n cap) cs::L2)) (w:=w) hi hzz hz
    have hzr:∀ w,(zeroValue E).run P w = .ok z w:=fun w=>by simp [zeroValue,typeInfo,program,Sem.run,hi,hzz]
    have hti:∀ w,(typeInfo E).run P w = .ok i w:=fun w=>by simp [typeInfo,program,Sem.run,hi]
    have hold:∃ olds:List Value,(Builtin.firstCells sz n (.slice base n cap)).run P w.drew = .ok olds.toArray w.drew/\olds.length=n * sz/\cs.length=n * sz /\
      ∀ j,j<n * sz->R (stable w (L1 ++ .arr sz (.slice base n cap) cs::L2)) w (olds.getD j undef) (cs.getD j .any):=by
     cases base with
     | none =>
      have h0:=hnil rfl
      have hn0:n=0:=by omega
      have hh:=hs.holds (.arr sz (.slice none n cap) cs) (by simp)
      obtain ⟨t1,t2,t3⟩:=hh
      subst hn0
      subst t3
      exact ⟨[],by simp [Builtin.firstCells],by simp,by simp,fun i hi=>by simp at hi⟩
     | some b =>
      by_cases hcz:cap=0
      · subst hcz
        obtain ⟨q1,q2,_⟩:=hs.holds (.arr sz (.slice (some b) n 0) cs) (by simp)
        have hn0:n=0:=by omega
        subst hn0
        have hc0:cs=[]:=List.eq_nil_of_length_eq_zero (by rw [q2,Nat.zero_mul])
        subst hc0
        exact ⟨[],run_firstCells_some (P:=P) w.drew sz 0 b 0 0 [] (by simp) (by simp),by simp,by simp,fun i hi=>by simp at hi⟩
      obtain ⟨s0,hnc,hl,ys,T,fr,g1,g2,g3,g4,g5,g6⟩:=zcU hs hcz
      refine ⟨(List.range (n * sz)).map fun j=>zbb w ⟨b.block,b.off+j,none⟩,?_,by simp,hl,fun j hj=>?_⟩
      · refine run_firstCells_some (P:=P) w.drew sz n b n cap _ (by simp) fun j u hj=>?_
        have hj':j<n * sz:=by
         have:=(List.getElem?_eq_some_iff.1 hj).1
         simpa using this
        rw [zbn b j s0]
        rw [List.getElem?_map] at hj
        simp [hj'] at hj
        rw [World.cell?_drew,<-hj,zbb,(g5 (b.off+j) (by omega) (by omega)).1];rfl
      · have:=g4 j (by omega)
        have e:zbb w ⟨b.block,b.off+j,none⟩=ys.getD (b.off+j) undef:=by rw [zbb,(g5 (b.off+j) (by omega) (by omega)).1];rfl
        simpa [List.getD_eq_getElem?_getD,hj,e] using this
    obtain ⟨olds,o1,o2,hl,o3⟩:=hold
    have hdr:=hs.drew
    obtain ⟨_,news',x2',x3',x4'⟩:=zhM (P:=P) (fun q (hq:stable w.drew _ q)=>hq.1) (hdr.2.rel (hr x kxb6)) hfx (fun y hy=>(hA11 y hy).1)
    have hge:=grownCap_ge w (n+xs.length) cap E
    generalize hcapn:grownCap w (n+xs.length) cap E=newCap at *
    have hrest:=size_zeroCells z.cells (newCap - (n+xs.length))
    generalize hrs:Builtin.zeroCells z.cells (newCap - (n+xs.length))=rest at *
    have hzc:z.cells.size=sz:=zr1.trans hA7
    have hsize:(olds.toArray++news'.toArray++rest).size=newCap * sz:=by
     simp only [Array.size_append,List.size_toArray,o2,x3',hrest,hzc,<-Nat.add_mul]
     congr 1;omega
    have hmul:n * sz+xs.length * sz<=newCap * sz:=by rw [<-Nat.add_mul];exact Nat.mul_le_mul_right _ hge
    have hv1:∀ j,j<n * sz->(olds.toArray++news'.toArray++rest).getD j undef=olds.getD j undef:=fun j hj=>by
     simp only [Array.getD_eq_getD_getElem?,List.getD_eq_getElem?_getD]
     rw [Array.append_assoc,Array.getElem?_append_left (by simp;omega)]
     simp
    have hv2:∀ j,j<xs.length * sz->(olds.toArray++news'.toArray++rest).getD (n * sz+j) undef=news'.getD j undef:=fun j hj=>by
     simp only [Array.getD_eq_getD_getElem?,List.getD_eq_getElem?_getD]
     rw [Array.append_assoc,Array.getElem?_append_right (by simp;omega),Array.getElem?_append_left (by simp;omega)]
     simp [o2]
    generalize hA:olds.toArray++news'.toArray++rest=row at *
    have hsw:=Sim.swap (w':=w.drew.alloc (.cells row E)) hs (e1:=.arr sz (.slice (some ⟨w.heap.size,0,none⟩) (n+xs.length) newCap) (cs++cells xs)) rfl rfl rfl (by simp) (fun b hb _=>Below.heap_alloc w.drew _ b hb)
     (fun q hq _=>by
       obtain ⟨u,hu⟩:=Option.isSome_iff_exists.1 hq
       exact World.cell?_of_block (w:=w) (Below.heap_alloc w.drew _ q.block (World.block_lt_of_cell? w q hu)))
     (fun b h=>.inr (Nat.le_of_eq h.1.symm)) (fun q h=>.inr (Nat.le_of_eq h.1.symm)) (fun hst=>⟨hge,by rw [List.length_append,hl,hcx,Nat.add_mul],fun _=>⟨rfl,row,E,(0,0),heap_alloc_new w.drew _,⟨.inl rfl,fun _=>rfl⟩,by simp only [hsize,Nat.zero_add];exact Nat.le_refl _,fun k hk=>by
       rw [List.length_append,hcx] at hk
       simp only [Nat.zero_add]
       by_cases hkc:k<cs.length
       · rw [hv1 k (by omega),List.getD_eq_getElem?_getD (l:=cs++cells xs),List.getElem?_append_left hkc,<-List.getD_eq_getElem?_getD]
         exact (o3 k (by omega)).mono hst
       · have e:=hv2 (k - cs.length) (by omega)
         rw [show n * sz+(k - cs.length)=k by omega] at e
         rw [e,List.getD_eq_getElem?_getD (l:=cs++cells xs),List.getElem?_append_right (by omega),<-List.getD_eq_getElem?_getD]
         exact (flat _ _ news' x4' (k - cs.length) (by omega)).mono hst⟩⟩)
    refine ⟨.slice (some ⟨w.heap.size,0,none⟩) (n+xs.length) newCap,w.drew.alloc (.cells row E), .ar _ (n+xs.length),_,?_,hsw, .ar _ _ _ hge (fun h=>nomatch h),hk _⟩
    unfold execOp
    rw [hop]
    have hg2:¬ 281474976710656<Builtin.nextslicecap (n+xs.length) cap * i.bytes:=by rw [<-hby];omega
    have hzd:(zeroValue E).run P w.drew = .ok z w.drew:=hzr w.drew
    have htd:(typeInfo E).run P w.drew = .ok i w.drew:=hti w.drew
    have hask:(askRoom (newCap * i.bytes)).run P w.drew = .ok () w.drew:=by unfold askRoom;split<;>rfl
    unfold grownCap at hcapn
    simp [resolve,invoke,Go.builtin,Builtin.append_,hvv,run_underlying hu,run_underlying hdx,hm,hEsz,x1,hfit,hti,hg2,Question.forced,hcapn,hask,o1,x2',hzd,hrs,newRow]
    rw [if_neg fun h=>by have:=h.1;omega,<-hA,Array.append_assoc]
end
end Go.Proofs.YtgekknefphagbaaGreatDoor
namespace Go.Proofs.YtgekknefphagbaaGreatDoor
open Go.RowKit
set_option linter.unusedSimpArgs false
set_option linter.unusedVariables false
set_option linter.unusedSectionVars false
section
variable {P:Program} {o:Oper} {f:Operand->V} {H:Own} {K:V->Own->Prop}
theorem DOp.mkmap_ {t:TypeId} (hop:o.op = .makeMap t none) (h:∀ r,K (.raw (.map (some r))) (.map r []::H)):DOp P o f H K :=
 DOp.step fun a w hs hr=>by
  refine ⟨.map (some w.heap.size),w.alloc (.map #[] 0),_,_,?_,hs.add (e1:=.map w.heap.size []) rfl rfl rfl (by simp) (fun b hb=>Below.heap_alloc w _ b hb) (fun b hb=>Nat.le_of_eq hb.symm) (fun _ =>
   ⟨#[],0,heap_alloc_new w _,rfl,fun k hk=>absurd hk (Nat.not_lt_zero _),fun i j _ hj=>absurd hj (Nat.not_lt_zero _),fun i hi=>absurd hi (Nat.not_lt_zero _)⟩), .raw _,h _⟩
  unfold execOp
  rw [hop]
  simp [Instr.makeMap]
theorem DOp.usd0_ {x:Operand} {T:TypeId} {l:List V} (hop:o.op = .call { callee:=.builtin .unsafeSliceData,args:=#[x],argTypes:=#[T] }) (hx:f x = .gs (.slice none 0 0) l) (h:K (.raw (.pointer none)) H):DOp P o f H K :=
 DOp.step fun a w hs hr=>by
  have hv:=hr x kxb6
  rw [hx] at hv
  have hv:a.eval x = .slice none 0 0:=by generalize a.eval x=v at hv;cases hv;rfl
  refine ⟨.pointer none,w,_,_,?_,⟨hs, .refl _ _⟩, .raw _,h⟩
  unfold execOp
  rw [hop]
  have e:∀ ts T,(Builtin.unsafeSliceData_ ts T #[.slice none 0 0]).run P w = .ok (.pointer none) w:=fun _ _=>rfl
  simp [resolve,invoke,Go.builtin,hv,e]
theorem DVop.usd0_ {e:Env} {mv tm:List Nat} {ops:Array Oper} {K:Env->Own->Prop} {i:Nat} {rest:List Oper} {x:Operand} {T:TypeId} {l:List V} (hm:mv.contains i=false) (ht:tm.contains i=true)
  (hop:o.op = .call { callee:=.builtin .unsafeSliceData,args:=#[x],argTypes:=#[T] }) (hx:opd e x = .gs (.slice none 0 0) l)
  (h:FD P (mv++tm) ops (fun i' l' e'=>DV P mv tm ops K i' l' e' H) (i+1) rest (putO e o.dst (.raw (.pointer none)))):DVop P mv tm ops K i o rest e H :=
 DVop.tm_ hm ht (DOp.usd0_ hop hx ⟨rfl,rfl⟩) h
theorem DOp.ustr0_ {x y:Operand} {T T':TypeId} {k:IntKind} (hop:o.op = .call { callee:=.builtin .unsafeString,args:=#[x,y],argTypes:=#[T,T'] }) (hx:f x = .raw (.pointer none)) (hy:f y = .int k 0) (h:K (.str []) H):DOp P o f H K :=
 DOp.step fun a w hs hr=>by
  have hv:=hr x kxb6
  have hu:=hr y kxb6
  rw [hx] at hv
  rw [hy] at hu
  have hv:a.eval x = .pointer none:=by generalize a.eval x=v at hv;cases hv;rfl
  have hu:a.eval y = .int k 0:=by generalize a.eval y=v at hu;cases hu;rfl
  refine ⟨.string (bs []),w,_,_,?_,⟨hs, .refl _ _⟩, .str _,h⟩
  unfold execOp
  rw [hop]
  have e:∀ T'',(Builtin.unsafeString_ #[T,T'] T'' #[.pointer none, .int k 0]).run P w = .ok (.string (bs [])) w:=fun _=>rfl
  simp [resolve,invoke,Go.builtin,hv,hu,e]
theorem cell_freeze (w:World) (p:Addr) (n:Nat) (a:Addr):(w.freeze p n).cell? a=w.cell? a:=by
 unfold World.freeze
 split
 · rfl
 · unfold World.cell?
   simp only [Array.getElem?_modify]
   by_cases hb:p.block=a.block
   · rw [if_pos hb]
     cases hh:w.heap[a.block]? with
     | none=>rfl
     | some o=>cases o<;>rfl
   · rw [if_neg hb]
theorem DOp.ranges_ {t:TypeId} {x:Operand} {s:List UInt8} (hop:o.op = .range t x) (hx:f x = .str s) (h:(ty P t).kind=3/\∀ r,K (.raw (.pointer (some ⟨r,0,none⟩))) (.siter r s 0::H)):DOp P o f H K :=
 DOp.step fun a w hs hr=>by
  have hv:=hr x kxcl
  rw [hx] at hv
  have hv:a.eval x = .string (bs s):=by generalize a.eval x=v at hv;cases hv;rfl
  refine ⟨.pointer (some ⟨w.heap.size,0,none⟩),w.alloc (.stringIter (bs s) 0),_,_,?_,hs.add (e1:=.siter w.heap.size s 0) rfl rfl rfl (by simp) (fun b hb=>Below.heap_alloc w _ b hb) (fun b hb=>Nat.le_of_eq hb.symm) (fun _=>heap_alloc_new w _), .raw _,h.2 _⟩
  unfold execOp
  rw [hop]
  simp [Instr.range,hv,run_underlying (zbS h.1)]
def zep (s:List UInt8) (pos:Nat):Int:=(Utf8.decode (bs s) pos).1
def zdg (s:List UInt8) (pos:Nat):Nat:=(Utf8.decode (bs s) pos).2
def OnI (H:Own) (r:Nat) (G:List UInt8->Nat->(Ent->Own)->Prop):Prop:=∃ s pos,On H (.siter r s pos) (G s pos)
theorem OnI.here {H:Own} {r:Nat} {s:List UInt8} {pos:Nat} {G:List UInt8->Nat->(Ent->Own)->Prop} (h:G s pos fun x=>x::H):OnI (.siter r s pos::H) r G:=⟨s,pos,On.here h⟩
theorem OnI.next {H:Own} {r:Nat} {y:Ent} {G:List UInt8->Nat->(Ent->Own)->Prop} (h:OnI H r fun s pos C=>G s pos fun x=>y::C x):OnI (y::H) r G:=by
 obtain ⟨s,pos,h⟩:=h
 exact ⟨s,pos,On.next h⟩
def Both (a b:Prop):Prop:=a/\b
theorem Both.imp {a b c d:Prop} (h1:a->c) (h2:b->d):Both (a->c) (b->d):=⟨h1,h2⟩
theorem DOp.nexts_ {x:Operand} {r:Nat} (hop:o.op = .next x true) (hx:f x = .raw (.pointer (some ⟨r,0,none⟩)))
  (h:OnI H r fun s pos C=>Both (pos<s.length->K (.tup [.bool true, .int .i64 pos, .int .i32 (zep s pos)]) (C (.siter r s (pos+zdg s pos)))) (s.length<=pos->K (.tup [.bool false]) (C (.siter r s pos)))):DOp P o f H K:=by
 obtain ⟨s,pos,L1,L2,rfl,k1,k2⟩:=h
 refine DOp.step fun a w hs hr=>?_
 have hv:=hr x kxcl
 rw [hx] at hv
 have hv:a.eval x = .pointer (some ⟨r,0,none⟩):=by generalize a.eval x=v at hv;cases hv;rfl
 have hh:w.heap[r]? = some (.stringIter (bs s) pos):=hs.holds (.siter r s pos) (by simp)
 have hlt:r<w.heap.size:=(Array.getElem?_eq_some_iff.1 hh).1
 by_cases hp:pos<s.length
 · have hsw:=Sim.swap (w':={ w with heap:=w.heap.setIfInBounds r (.stringIter (bs s) (pos+zdg s pos)) }) (e0:=.siter r s pos) (e1:=.siter r s (pos+zdg s pos)) hs rfl rfl rfl (by simp)
    (fun b _ hb=>by simp only [Array.getElem?_setIfInBounds];rw [if_neg (fun e=>hb e.symm)]) (fun q _ hq=>by
      simp only [World.cell?,Array.getElem?_setIfInBounds];rw [if_neg (fun e=>hq e.symm)]) (fun b hb=>.inl hb) (fun q hq=>.inl hq) (fun _=>by
      show (w.heap.setIfInBounds r _)[r]? = _
      simp [Array.getElem?_setIfInBounds,hlt])
   refine ⟨.tuple #[.bool true,goInt pos, .int .i32 (zep s pos)],_,_,_,?_,hsw, .tup _ _ rfl (fun k hk=>?_),k1 hp⟩
   · unfold execOp
     rw [hop]
     have hs':pos<(bs s).size:=by rw [zdk];exact hp
     have g1:(getObj r).run P w = .ok (.stringIter (bs s) pos) w:=by simp [getObj,Sem.run,hh]
     have g2:∀ o':Obj,(setObj r o').run P w = .ok () { w with heap:=w.heap.setIfInBounds r o' }:=fun o'=>by simp [setObj,Sem.run,hh]
     simp [Instr.next,hv,g1,g2,hs',zep,zdg]
   · match k,hk with
     | 0,_=>exact .bool _
     | 1,_=>exact .int _ _
     | 2,_=>exact .int _ _
 · refine ⟨.tuple #[.bool false],w,_,_,?_,⟨hs, .refl _ _⟩, .tup _ _ rfl (fun k hk=>?_),k2 (by omega)⟩
   · unfold execOp
     rw [hop]
     have hs':¬ pos<(bs s).size:=by rw [zdk];exact hp
     have g1:(getObj r).run P w = .ok (.stringIter (bs s) pos) w:=by simp [getObj,Sem.run,hh]
     simp [Instr.next,hv,g1,hs']
   · match k,hk with
     | 0,_=>exact .bool _
end
section
variable {P:Program} {e:Env} {H:Own} {K:V->Own->Prop}
def RetK (P:Program) (e:Env) (H:Own) (K:V->Own->Prop):List ResultVar->List V->Prop
 | [],ds=>K (one_ ds) H
 | .tmp t::l,ds=>RetK P e H K l (ds++[get e t])
 | .cell a t::l,ds=>∃ b off,get e a = .raw (.pointer (some ⟨b,off,none⟩))/\OnB H b fun cs _=>zdO (ty P t) (cs.drop off) 0/\RetK P e H K l (ds++[zcw (ty P t) (cs.drop off) 0])
theorem RetK.run:∀ {l:List ResultVar} {ds:List V},RetK P e H K l ds->∃ ds',RetR P e H l ds'/\K (one_ (ds++ds')) H
 | [],ds,h=>⟨[], .nil,by rw [List.append_nil];exact h⟩
 | .tmp t::l,ds,h=>by
  obtain ⟨ds',h1,h2⟩:=RetK.run (l:=l) h
  exact ⟨_, .tmp h1,by simpa using h2⟩
 | .cell a t::l,ds,h=>by
  obtain ⟨b,off,hg,cs,L1,L2,hH,hp,h⟩:=h
  obtain ⟨ds',h1,h2⟩:=RetK.run (l:=l) h
  refine ⟨_, .cell (d:=zcw (ty P t) (cs.drop off) 0) (fun w v hs hv=>?_) h1,by simpa using h2⟩
  subst hH
  rw [hg] at hv
  have hv:v = .pointer (some ⟨b,off,none⟩):=by cases hv;rfl
  subst hv
  obtain ⟨xs,T,fr,g1,g2,g3,g4,g5⟩:=zk3 hs
  obtain ⟨u,e1,e2⟩:=zcY (P:=P) (S:=stable w (L1 ++ .blk b cs::L2)) (w:=w) (t:=t) (b:=⟨b,off,none⟩) (cs:=cs.drop off) rfl (fun k hk=>by
   rw [List.length_drop] at hk
   simp only
   rw [(g5 (off+k) (by omega)).1];rfl) (fun k hk=>by
   rw [List.length_drop] at hk
   have:=g4 (off+k) (by omega)
   simp only
   rw [zbb,(g5 (off+k) (by omega)).1]
   simpa [List.getD_eq_getElem?_getD,List.getElem?_drop] using this) hp
  exact ⟨u,by simpa [asAddr] using e1,e2⟩
theorem ret_c {fn:Func} (l:List ResultVar) (hl:fn.results.toList=l) (h:RetK P e H K l []):retQ P fn K .ret e H:=by
 obtain ⟨ds,h1,h2⟩:=RetK.run h
 exact ⟨ds,hl▸h1,by simpa using h2⟩
theorem zo2 (ds:List V):RetK P e H K [] ds=K (one_ ds) H:=rfl
theorem zqp (t:Nat) (l:List ResultVar) (ds:List V):RetK P e H K (.tmp t::l) ds=RetK P e H K l (ds++[get e t]):=rfl
theorem zeQ (a b off:Nat) (t:TypeId) (l:List ResultVar) (ds:List V) (hg:get e a = .raw (.pointer (some ⟨b,off,none⟩))) (h:OnB H b fun cs _=>zdO (ty P t) (cs.drop off) 0/\RetK P e H K l (ds++[zcw (ty P t) (cs.drop off) 0])):RetK P e H K (.cell a t::l) ds:=⟨b,off,hg,h⟩
theorem le.agg {cs ds:List V} (h:Les cs ds):le (.agg cs) (.agg ds):=by
 intro S w v hv
 cases hv with
 | agg xs cs hn hr =>
  have key:∀ {cs ds:List V},Les cs ds->cs.length=ds.length/\∀ k,k<ds.length->le (cs.getD k .any) (ds.getD k .any):=by
   intro cs ds h
   induction h with
   | nil=>exact ⟨rfl,fun k hk=>absurd hk (Nat.not_lt_zero _)⟩
   | cons h1 h2 ih =>
    refine ⟨by simp [ih.1],fun k hk=>?_⟩
    cases k with
    | zero=>simpa using h1
    | succ k=>simpa using ih.2 k (by simpa using hk)
  obtain ⟨k1,k2⟩:=key h
  exact .agg xs _ (hn.trans k1) fun k hk=>k2 k hk S w _ (hr k (by omega))
end
end Go.Proofs.YtgekknefphagbaaGreatDoor
namespace Go.Proofs.YtgekknefphagbaaGreatDoor
open Go.RowKit
set_option linter.unusedSimpArgs false
set_option linter.unusedVariables false
set_option linter.unusedSectionVars false
theorem DOp.perm {P:Program} {o:Oper} {f:Operand->V} {H H':Own} {K:V->Own->Prop} (hp:H.Perm H') (h:DOp P o f H' K):DOp P o f H K:=fun a w next Q hs hr hn =>
 h a w next Q (hs.perm hp) (fun x hx=>(Ext.perm hp).rel (hr x hx)) fun v w' d H1 s ex r k=>hn v w' d H1 s ((Ext.perm hp).trans ex) r k
theorem RF.perm {n:Nat} {w:World} {H H':Own} {tmps:Array Value} {F:Nat->V} (hp:H.Perm H') (h:RF n w H tmps F):RF n w H' tmps F:=h.ext (Ext.perm hp)
section
variable {P:Program} {ops:List Oper} {mv:List Nat} {val:Nat->Oper->(Operand->V)->V} {side:Nat->Oper->(Operand->V)->Prop} {K:(Nat->V)->Own->Prop} {n:Nat}
theorem RV.perm (hK:∀ F H H',H.Perm H'->K F H->K F H') {L:Nat->Bool}:∀ (l:List Oper) (k:Nat) (F:Nat->V) (H H':Own),H.Perm H'->RV P ops mv val side K L k l F H->RV P ops mv val side K L k l F H'
 | [],_,F,H,H',hp,h=>hK F H H' hp h
 | o::rest,k,F,H,H',hp,h=>by
  have ih:=fun F H H' hp=>RV.perm hK (L:=L) rest (k+1) F H H' hp
  unfold RV at h ⊢
  split
  · rename_i hl;rw [if_pos hl] at h;exact ih _ _ _ hp h
  · rename_i hl
    rw [if_neg hl] at h
    cases hg:gst ops o F with
    | none=>rw [hg] at h;exact h.elim
    | some b =>
     rw [hg] at h
     cases b with
     | false=>exact ih _ _ _ hp h
     | true =>
      simp only at h ⊢
      split
      · rename_i hm;rw [if_pos hm] at h;exact h.perm hp.symm
      · rename_i hm;rw [if_neg hm] at h;exact ⟨h.1,ih _ _ _ hp h.2⟩
def pB (b:Nat):V:=.raw (.pointer (some ⟨b,0,none⟩))
def RVX (P:Program) (ops:List Oper) (mv:List Nat) (j0:Nat) (FL:Nat->Ent) (val:Nat->Oper->(Operand->V)->V) (side:Nat->Oper->(Operand->V)->Prop) (K:(Nat->V)->Own->Prop) (L:Nat->Bool) (fb:Option Nat):Nat->List Oper->(Nat->V)->Own->Prop
 | _,[],F,H=>False
 | k,o::rest,F,H =>
  if k=j0 then match fb with
   | some b=>RV P ops mv val side K L (k+1) rest F (FL b::H)
   | none=>∀ b,RV P ops mv val side K L (k+1) rest (putF F o.dst (pB b)) (FL b::H)
  else if L k=true then RVX P ops mv j0 FL val side K L fb (k+1) rest F H
  else match gst ops o F with
   | some true =>
    if mv.contains k=true then ∀ X:Own,DOp P o (opdF F) (H++X) fun d H'=>∃ H1:Own,H'.Perm (H1++X)/\RVX P ops mv j0 FL val side K L fb (k+1) rest (putF F o.dst d) H1
    else side k o (opdF F)/\RVX P ops mv j0 FL val side K L fb (k+1) rest (putF F o.dst (val k o (opdF F))) H
   | some false=>RVX P ops mv j0 FL val side K L fb (k+1) rest (putF F o.dst (.tup [])) H
   | none=>False
variable {j0:Nat} {FL:Nat->Ent}
theorem RVX.congrL {L L':Nat->Bool} {fb:Option Nat}:∀ (l:List Oper) (k:Nat) (F:Nat->V) (H:Own),(∀ j,k<=j->j≠j0->L j=L' j)->RVX P ops mv j0 FL val side K L fb k l F H->RVX P ops mv j0 FL val side K L' fb k l F H
 | [],_,_,_,_,h=>h
 | o::rest,k,F,H,he,h=>by
  have ih:=fun F H=>RVX.congrL (fb:=fb) rest (k+1) F H fun j hj hn=>he j (by omega) hn
  unfold RVX at h ⊢
  by_cases hk:k=j0
  · rw [if_pos hk] at h ⊢
    cases fb with
    | some b=>exact RV.congrL rest _ _ _ (fun j hj=>he j (by omega) (by omega)) h
    | none=>exact fun b=>RV.congrL rest _ _ _ (fun j hj=>he j (by omega) (by omega)) (h b)
  · rw [if_neg hk] at h ⊢
    rw [<-he k (Nat.le_refl _) hk]
    split
    · rename_i hl;rw [if_pos hl] at h;exact ih _ _ h
    · rename_i hl
      rw [if_neg hl] at h
      cases hg:gst ops o F with
      | none=>rw [hg] at h;exact h.elim
      | some b =>
       rw [hg] at h
       cases b with
       | false=>exact ih _ _ h
       | true =>
        simp only at h ⊢
        split
        · rename_i hm;rw [if_pos hm] at h;exact fun X=>(h X).mono fun d H' ⟨H1,hp,h⟩=>⟨H1,hp,ih _ _ h⟩
        · rename_i hm;rw [if_neg hm] at h;exact ⟨h.1,ih _ _ h.2⟩
variable (hval:∀ k o f f',(∀ x,x∈o.op.operands->f x=f' x)->val k o f=val k o f'/\(side k o f->side k o f'))
include hval
theorem RVX.pull {L:Nat->Bool} {fb:Option Nat} {j:Nat} {oj:Oper} (hj0:j<j0) (hj:L j=false) (hun:∀ i oi,i<j->ops[i]? = some oi->L i=false->Free ops oi oj) :
  ∀ (l:List Oper) (k:Nat) (F:Nat->V) (H:Own) (d:V),(∀ i,i<l.length->l[i]? = ops[k+i]?)->k<=j->j<k+l.length->l[j - k]? = some oj ->
   (gst ops oj F=some false->d = .tup [])->(gst ops oj F=some true->mv.contains j=false/\d=val j oj (opdF F)) ->
   RVX P ops mv j0 FL val side K L fb k l F H->RVX P ops mv j0 FL val side K (fun i=>L i||i==j) fb k l (putF F oj.dst d) H
 | [],k,F,H,d,_,h1,h2,_,_,_,_=>by simp at h2;omega
 | o::rest,k,F,H,d,hl,hkj,hjk,hoj,hd0,hd1,h=>by
  have h0:ops[k]? = some o:=by simpa using (hl 0 (by simp)).symm
  have hl':∀ i,i<rest.length->rest[i]? = ops[k+1+i]?:=fun i hi=>by have:=hl (i+1) (by simp;omega);simpa [Nat.add_assoc,Nat.add_comm 1 i] using this
  unfold RVX at h ⊢
  rw [if_neg (show k≠j0 by omega)] at h ⊢
  by_cases hk:k=j
  · subst hk
    have ho:o=oj:=by simpa using hoj
    subst ho
    rw [if_pos (by simp)]
    rw [if_neg (by simp [hj])] at h
    have hc:∀ {F H},RVX P ops mv j0 FL val side K L fb (k+1) rest F H->RVX P ops mv j0 FL val side K (fun i=>L i||i==k) fb (k+1) rest F H:=fun {F H} h =>
     RVX.congrL rest _ _ _ (fun i hi _=>by simp;omega) h
    cases hg:gst ops o F with
    | none=>rw [hg] at h;exact h.elim
    | some b =>
     rw [hg] at h
     cases b with
     | false=>rw [hd0 hg];exact hc h
     | true =>
      obtain ⟨hm,hd⟩:=hd1 hg
      simp only [hm,Bool.false_eq_true,if_false] at h
      rw [hd]
      exact hc h.2
  · have hlt:k<j:=by omega
    have hjk':j<k+1+rest.length:=by simp at hjk;omega
    have hoj':rest[j - (k+1)]? = some oj:=by
     have:j - k=(j - (k+1))+1:=by omega
     rw [this] at hoj
     simpa using hoj
    have hneq:(k==j)=false:=by simp;omega
    simp only [hneq,Bool.or_false]
    by_cases hlk:L k=true
    · rw [if_pos hlk] at h ⊢
      exact RVX.pull hj0 hj hun rest (k+1) F H d hl' (by omega) hjk' hoj' hd0 hd1 h
    · rw [if_neg hlk] at h ⊢
      have fr:=hun k o hlt h0 (by simpa using hlk)
      rw [fr.gst2]
      have ih:=fun F' H' (e1:gst ops oj F'=gst ops oj F) (e2:val j oj (opdF F')=val j oj (opdF F))=>RVX.pull (fb:=fb) hj0 hj hun rest (k+1) F' H' d hl' (by omega) hjk' hoj' (fun h=>hd0 (e1▸h)) (fun h=>by rw [e2];exact hd1 (e1▸h))
      cases hg:gst ops o F with
      | none=>rw [hg] at h;exact h.elim
      | some b =>
       rw [hg] at h
       cases b with
       | false =>
        simp only at h ⊢
        rw [<-fr.put]
        exact ih _ _ (fr.gst1 _ _) (fr.val1 hval _ _ _) h
       | true =>
        simp only at h ⊢
        split
        · rename_i hm
          rw [if_pos hm] at h
          refine fun X=>((h X).congr fun x hx=>(fr.ops2 F d x hx).symm).mono fun d' H' ⟨H1,hp,h⟩=>⟨H1,hp,?_⟩
          rw [<-fr.put]
          exact ih _ _ (fr.gst1 _ _) (fr.val1 hval _ _ _) h
        · rename_i hm
          rw [if_neg hm] at h
          refine ⟨fr.side2 hval _ _ _ h.1,?_⟩
          rw [fr.val2 hval k,<-fr.put]
          exact ih _ _ (fr.gst1 _ _) (fr.val1 hval _ _ _) h.2
theorem RVX.pullF {L:Nat->Bool} {o0:Oper} (b0:Nat) (hun:∀ i oi,i<j0->ops[i]? = some oi->L i=false->Free ops oi o0) :
  ∀ (l:List Oper) (k:Nat) (F:Nat->V) (H:Own),(∀ i,i<l.length->l[i]? = ops[k+i]?)->k<=j0->j0<k+l.length->l[j0 - k]? = some o0 ->
   RVX P ops mv j0 FL val side K L none k l F H->RVX P ops mv j0 FL val side K L (some b0) k l (putF F o0.dst (pB b0)) H
 | [],k,F,H,_,h1,h2,_,_=>by simp at h2;omega
 | o::rest,k,F,H,hl,hkj,hjk,hoj,h=>by
  have h0:ops[k]? = some o:=by simpa using (hl 0 (by simp)).symm
  have hl':∀ i,i<rest.length->rest[i]? = ops[k+1+i]?:=fun i hi=>by have:=hl (i+1) (by simp;omega);simpa [Nat.add_assoc,Nat.add_comm 1 i] using this
  unfold RVX at h ⊢
  by_cases hk:k=j0
  · subst hk
    have ho:o=o0:=by simpa using hoj
    subst ho
    rw [if_pos rfl] at h ⊢
    exact h b0
  · rw [if_neg hk] at h ⊢
    have hlt:k<j0:=by omega
    have hjk':j0<k+1+rest.length:=by simp at hjk;omega
    have hoj':rest[j0 - (k+1)]? = some o0:=by
     have:j0 - k=(j0 - (k+1))+1:=by omega
     rw [this] at hoj
     simpa using hoj
    by_cases hlk:L k=true
    · rw [if_pos hlk] at h ⊢
      exact RVX.pullF b0 hun rest (k+1) F H hl' (by omega) hjk' hoj' h
    · rw [if_neg hlk] at h ⊢
      have fr:=hun k o hlt h0 (by simpa using hlk)
      rw [fr.gst2]
      have ih:=fun F' H'=>RVX.pullF b0 hun rest (k+1) F' H' hl' (by omega) hjk' hoj'
      cases hg:gst ops o F with
      | none=>rw [hg] at h;exact h.elim
      | some b =>
       rw [hg] at h
       cases b with
       | false =>
        simp only at h ⊢
        rw [<-fr.put]
        exact ih _ _ h
       | true =>
        simp only at h ⊢
        split
        · rename_i hm
          rw [if_pos hm] at h
          refine fun X=>((h X).congr fun x hx=>(fr.ops2 F _ x hx).symm).mono fun d' H' ⟨H1,hp,h⟩=>⟨H1,hp,?_⟩
          rw [<-fr.put]
          exact ih _ _ h
        · rename_i hm
          rw [if_neg hm] at h
          refine ⟨fr.side2 hval _ _ _ h.1,?_⟩
          rw [fr.val2 hval k,<-fr.put]
          exact ih _ _ h.2
theorem RVX.pullM {L:Nat->Bool} {fb:Option Nat} {j:Nat} {oj:Oper} (hj0:j<j0) (hj:L j=false) (hm:mv.contains j=true) (hun:∀ i oi,i<j->ops[i]? = some oi->L i=false->Free ops oi oj/\mv.contains i=false) :
  ∀ (l:List Oper) (k:Nat) (F:Nat->V) (H:Own),(∀ i,i<l.length->l[i]? = ops[k+i]?)->k<=j->j<k+l.length->l[j - k]? = some oj->gst ops oj F=some true ->
   RVX P ops mv j0 FL val side K L fb k l F H->∀ X:Own,DOp P oj (opdF F) (H++X) fun d H'=>∃ H1:Own,H'.Perm (H1++X)/\RVX P ops mv j0 FL val side K (fun i=>L i||i==j) fb k l (putF F oj.dst d) H1
 | [],k,F,H,_,h1,h2,_,_,_=>by simp at h2;omega
 | o::rest,k,F,H,hl,hkj,hjk,hoj,hgj,h=>by
  intro X
  have h0:ops[k]? = some o:=by simpa using (hl 0 (by simp)).symm
  have hl':∀ i,i<rest.length->rest[i]? = ops[k+1+i]?:=fun i hi=>by have:=hl (i+1) (by simp;omega);simpa [Nat.add_assoc,Nat.add_comm 1 i] using this
  have hkj0:k≠j0:=by omega
  by_cases hk:k=j
  · subst hk
    have ho:o=oj:=by simpa using hoj
    subst ho
    unfold RVX at h
    rw [if_neg hkj0,if_neg (by simp [hj]),hgj] at h
    simp only [hm,if_true] at h
    refine (h X).mono fun d H' ⟨H1,hp,h⟩=>⟨H1,hp,?_⟩
    unfold RVX
    rw [if_neg hkj0,if_pos (by simp)]
    exact RVX.congrL rest _ _ _ (fun i hi _=>by simp;omega) h
  · have hlt:k<j:=by omega
    have hjk':j<k+1+rest.length:=by simp at hjk;omega
    have hoj':rest[j - (k+1)]? = some oj:=by
     have:j - k=(j - (k+1))+1:=by omega
     rw [this] at hoj
     simpa using hoj
    have hneq:(k==j)=false:=by simp;omega
    unfold RVX at h
    rw [if_neg hkj0] at h
    by_cases hlk:L k=true
    · rw [if_pos hlk] at h
      refine (RVX.pullM hj0 hj hm hun rest (k+1) F H hl' (by omega) hjk' hoj' hgj h X).mono fun d H' ⟨H1,hp,h⟩=>⟨H1,hp,?_⟩
      unfold RVX
      rw [if_neg hkj0,if_pos (by simp [hlk])]
      exact h
    · rw [if_neg hlk] at h
      obtain ⟨fr,hmk⟩:=hun k o hlt h0 (by simpa using hlk)
      cases hg:gst ops o F with
      | none=>rw [hg] at h;exact h.elim
      | some b =>
       rw [hg] at h
       cases b with
       | false =>
        simp only at h
        refine ((RVX.pullM hj0 hj hm hun rest (k+1) _ H hl' (by omega) hjk' hoj' kxck h X).congr fun x hx=>fr.ops1 F _ x hx).mono fun d H' ⟨H1,hp,h⟩=>⟨H1,hp,?_⟩
        unfold RVX
        rw [if_neg hkj0,if_neg (by simp [hlk];omega),fr.gst2,hg]
        simp only
        rw [<-fr.put]
        exact h
       | true =>
        simp only [hmk,Bool.false_eq_true,if_false] at h
        refine ((RVX.pullM hj0 hj hm hun rest (k+1) _ H hl' (by omega) hjk' hoj' kxck h.2 X).congr fun x hx=>fr.ops1 F _ x hx).mono fun d H' ⟨H1,hp,h'⟩=>⟨H1,hp,?_⟩
        unfold RVX
        rw [if_neg hkj0,if_neg (by simp [hlk];omega),fr.gst2,hg]
        simp only [hmk,Bool.false_eq_true,if_false]
        refine ⟨fr.side2 hval _ _ _ h.1,?_⟩
        rw [fr.val2 hval k,<-fr.put]
        exact h'
variable (hok:DrawOk ops mv []) (hfl:∀ k o,ops[k]? = some o->mv.contains k=false->k≠j0->∀ f H,side k o f->DOp P o f H fun d H'=>d=val k o f/\H'=H) (hdst:dstB n ops=true)
include hok hfl hdst
theorem RVX.known {L:Nat->Bool} {fb:Option Nat} {j:Nat} {oj:Oper} (X:Own) (hj0:j<j0) (hj:L j=false) (hun:∀ i oi,i<j->ops[i]? = some oi->L i=false->Free ops oi oj) :
  ∀ (l:List Oper) (k:Nat) (F:Nat->V) (H:Own) (a:Act) (w:World),(∀ i,i<l.length->l[i]? = ops[k+i]?)->k<=j->j<k+l.length->l[j - k]? = some oj ->
   Sim w (H++X)->RF n w (H++X) a.tmps F->RVX P ops mv j0 FL val side K L fb k l F H->(∃ b,gst ops oj F=some b)/\(gst ops oj F=some true->mv.contains j=false->side j oj (opdF F))
 | [],k,F,H,a,w,_,h1,h2,_,_,_,_=>by simp at h2;omega
 | o::rest,k,F,H,a,w,hl,hkj,hjk,hoj,hs,hr,h=>by
  have h0:ops[k]? = some o:=by simpa using (hl 0 (by simp)).symm
  have hl':∀ i,i<rest.length->rest[i]? = ops[k+1+i]?:=fun i hi=>by have:=hl (i+1) (by simp;omega);simpa [Nat.add_assoc,Nat.add_comm 1 i] using this
  have hdo:o.dst.all (· < n)=true:=by
   have:=List.all_eq_true.1 hdst o (List.mem_of_getElem? h0)
   simpa using this
  have hkj0:k≠j0:=by omega
  unfold RVX at h
  rw [if_neg hkj0] at h
  by_cases hk:k=j
  · subst hk
    have ho:o=oj:=by simpa using hoj
    subst ho
    rw [if_neg (by simp [hj])] at h
    cases hg:gst ops o F with
    | none=>rw [hg] at h;exact h.elim
    | some b =>
     rw [hg] at h
     refine ⟨⟨b,rfl⟩,fun hb hm=>?_⟩
     injection hb with hb
     subst hb
     simp only [hm,Bool.false_eq_true,if_false] at h
     exact h.1
  · have hlt:k<j:=by omega
    have hjk':j<k+1+rest.length:=by simp at hjk;omega
    have hoj':rest[j - (k+1)]? = some oj:=by
     have:j - k=(j - (k+1))+1:=by omega
     rw [this] at hoj
     simpa using hoj
    by_cases hlk:L k=true
    · rw [if_pos hlk] at h
      exact RVX.known X hj0 hj hun rest (k+1) F H a w hl' (by omega) hjk' hoj' hs hr h
    · rw [if_neg hlk] at h
      have fr:=hun k o hlt h0 (by simpa using hlk)
      have back:∀ d,((∃ b,gst ops oj (putF F o.dst d)=some b)/\(gst ops oj (putF F o.dst d)=some true->mv.contains j=false->side j oj (opdF (putF F o.dst d)))) ->
        (∃ b,gst ops oj F=some b)/\(gst ops oj F=some true->mv.contains j=false->side j oj (opdF F)):=fun d ⟨x,y⟩=>by
       rw [fr.gst1] at x y
       exact ⟨x,fun h1 h2=>fr.side1 hval _ _ _ (y h1 h2)⟩
      cases hg:gst ops o F with
      | none=>rw [hg] at h;exact h.elim
      | some b =>
       rw [hg] at h
       cases b with
       | false=>exact back _ (RVX.known X hj0 hj hun rest (k+1) _ H (a.put o.dst undef) w hl' (by omega) hjk' hoj' hs (hr.put hdo (R.skipped _ _)) h)
       | true =>
        simp only at h
        split at h
        · rename_i hm
          refine zfp (P:=P) (o:=o) (a:=a) (w:=w) (h X a w _ _ hs (fun x _=>hr.opd x) fun v w' d H' s x r ⟨H1,hp,k'⟩=>?_)
          exact back _ (RVX.known X hj0 hj hun rest (k+1) _ H1 _ w' hl' (by omega) hjk' hoj' (s.perm hp) (((hr.ext x).put hdo r).perm hp) k')
        · rename_i hm
          refine zfp (P:=P) (o:=o) (a:=a) (w:=w) (hfl k o h0 (by simpa using hm) hkj0 _ (H++X) h.1 a w _ _ hs (fun x _=>hr.opd x) fun v w' d H' s x r ⟨hd,hH⟩=>?_)
          subst hd
          subst hH
          exact back _ (RVX.known X hj0 hj hun rest (k+1) _ H _ w' hl' (by omega) hjk' hoj' s ((hr.ext x).put hdo r) h.2)
theorem RVX.conv {L:Nat->Bool} {b:Nat} (hL:∀ k,k<=j0->L k=true):∀ (l:List Oper) (k:Nat) (F:Nat->V) (H:Own),k<=j0->RVX P ops mv j0 FL val side K L (some b) k l F H->RV P ops mv val side K L k l F (FL b::H)
 | [],_,_,_,_,h=>h.elim
 | o::rest,k,F,H,hk,h=>by
  unfold RVX at h
  unfold RV
  rw [if_pos (hL k hk)]
  by_cases hkj:k=j0
  · rw [if_pos hkj] at h;exact h
  · rw [if_neg hkj,if_pos (hL k hk)] at h
    exact RVX.conv hL rest (k+1) F H (by omega) h
variable (o0:Oper) (ho0:ops[j0]? = some o0) (hg0:o0.guard=none) (hal:∀ f H Kd,(∀ b,Kd (pB b) (FL b::H))->DOp P o0 f H Kd) (hlate:∀ i,j0<i->i<ops.length->∀ k,k<=j0->After ops.toArray i k) (hmv0:mv.contains j0=false)
include o0 ho0 hg0 hal hlate hmv0
theorem RVX.all {Q:Exit->Act->World->Prop} {w0:World} {G0:Own} {D:List Deferred} (hQ:∀ a' w' F' H',a'.defers=D->Sim w' H'->RF n w' H' a'.tmps F'->Ext w0 G0 w' H'->K F' H'->Q .normal a' w') :
  ∀ (c:Nat) (listed:Array Bool) (fb:Option Nat) (F:Nat->V) (H:Own) (a:Act) (w:World),listed.toList.count false=c->HeadInv .any ops.toArray ops.length listed->(listed.getD j0 false=fb.isSome)->RVX P ops mv j0 FL val side K (fun k=>listed.getD k false) fb 0 ops F H ->
   Sim w (H++(fb.map FL).toList)->RF n w (H++(fb.map FL).toList) a.tmps F->Ext w0 G0 w (H++(fb.map FL).toList)->a.defers=D->wpAny P .any ops.toArray Q c listed a w:=by
 have hfl':∀ (H0:Own) k o,ops[k]? = some o->mv.contains k=false->∀ f H,(([]:List Nat).contains k=true->H=H0)->(fun k o f=>side k o f/\k≠j0) k o f->DOp P o f H fun d H'=>d=val k o f/\H'=H:=fun H0 k o ho hm f H _ hs=>hfl k o ho hm hs.2 f H hs.1
 have hval':∀ k o f f',(∀ x,x∈o.op.operands->f x=f' x)->val k o f=val k o f'/\((fun k o f=>side k o f/\k≠j0) k o f->(fun k o f=>side k o f/\k≠j0) k o f'):=fun k o f f' hf=>⟨(hval k o f f' hf).1,fun h=>⟨(hval k o f f' hf).2 h.1,h.2⟩⟩
 have hjl:j0<ops.length:=(List.getElem?_eq_some_iff.1 ho0).1
 have fin:∀ (c:Nat) (listed:Array Bool) (b:Nat) (F:Nat->V) (H:Own) (a:Act) (w:World),listed.toList.count false=c->HeadInv .any ops.toArray ops.length listed->(∀ k,k<=j0->listed.getD k false=true)->RVX P ops mv j0 FL val side K (fun k=>listed.getD k false) (some b) 0 ops F H ->
   Sim w (H++[FL b])->RF n w (H++[FL b]) a.tmps F->Ext w0 G0 w (H++[FL b])->a.defers=D->wpAny P .any ops.toArray Q c listed a w:=fun c listed b F H a w hc inv hall h hs hr hx hD=>by
  have hp:(H++[FL b]).Perm (FL b::H):=(List.perm_append_comm).trans (by simp)
  have h':=RVX.conv hval hok hfl hdst hall ops 0 F H (Nat.zero_le _) h
  have hL:∀ k,mv.contains k=false->(fun k=>listed.getD k false) k=true\/k≠j0:=fun k _=>by
   by_cases hk:k=j0
   · left;rw [hk];exact hall j0 (Nat.le_refl _)
   · exact .inr hk
  refine RV.all (n:=n) (mv:=mv) (tm:=[]) (H0:=FL b::H) (K:=K) (val:=val) (side:=fun k o f=>side k o f/\k≠j0) (fun k o f f' hf=>⟨(hval k o f f' hf).1,fun h=>⟨(hval k o f f' hf).2 h.1,h.2⟩⟩) hok (hfl' _) hdst hQ c listed F (FL b::H) a w hc inv ?_ (hs.perm hp) (fun _=>rfl) (hr.perm hp) (hx.trans (Ext.perm hp)) hD
  have up:∀ (l:List Oper) (k:Nat) (F:Nat->V) (H:Own),RV P ops mv val side K (fun k=>listed.getD k false) k l F H->RV P ops mv val (fun k o f=>side k o f/\k≠j0) K (fun k=>listed.getD k false) k l F H:=by
   intro l
   induction l with
   | nil=>exact fun k F H h=>h
   | cons o rest ih =>
    intro k F H h
    unfold RV at h ⊢
    split
    · rename_i hl;rw [if_pos hl] at h;exact ih _ _ _ h
    · rename_i hl
      rw [if_neg hl] at h
      have hkj:k≠j0:=fun e=>hl (by rw [e];exact hall j0 (Nat.le_refl _))
      cases hg:gst ops o F with
      | none=>rw [hg] at h;exact h.elim
      | some b =>
       rw [hg] at h
       cases b with
       | false=>exact ih _ _ _ h
       | true =>
        simp only at h ⊢
        split
        · rename_i hm;rw [if_pos hm] at h;exact h.mono fun d H' h=>ih _ _ _ h
        · rename_i hm;rw [if_neg hm] at h;exact ⟨⟨h.1,hkj⟩,ih _ _ _ h.2⟩
  exact up ops 0 F _ h'
 intro c
 induction c with
 | zero =>
  intro listed fb F H a w hc inv hfb h hs hr hx hD
  have hall:∀ j,listed.getD j true=true:=fun j=>by
   cases hj:listed.getD j true with
   | true=>rfl
   | false=>have:=zeg (P:=P) hval' hok (hfl' []) hdst hj;omega
  have hall':∀ k,k<=j0->listed.getD k false=true:=fun k hk=>by
   have h1:=hall k
   have h2:k<listed.size:=by rw [inv.size];simp;omega
   simp [h2] at h1 ⊢
   exact h1
  cases fb with
  | none=>rw [hall' j0 (Nat.le_refl _)] at hfb;cases hfb
  | some b=>exact fin 0 listed b F H a w hc inv hall' h hs hr hx hD
 | succ c ih =>
  intro listed fb F H a w hc inv hfb h hs hr hx hD
  have hsz:listed.size=ops.length:=by simpa using inv.size
  rcases zhI (P:=P) hval' hok (hfl' []) hdst hsz (j0+1) with hall | ⟨k,hk,hkf,hlow⟩
  · cases fb with
    | none=>rw [hall j0 (by omega)] at hfb;cases hfb
    | some b=>exact fin (c+1) listed b F H a w hc inv (fun k hk=>hall k (by omega)) h hs hr hx hD
  · refine ⟨fun h0=>?_,fun i hi'=>?_⟩
    · exfalso
      have hkl:k<listed.size:=by omega
      have:k∈Region.ready .any ops.toArray listed:=mem_ready.2 ⟨getD_in hkl hkf,ops[k],by simp [show k<ops.length by omega],fun e he hb=>hlow _ (hok.up k _ (by simp [show k<ops.length by omega]) e he hb)⟩
      rw [h0] at this
      cases this
    · obtain ⟨hun,oi,hoi,_⟩:=mem_ready.1 hi'
      have hoi':ops[i]? = some oi:=by simpa using hoi
      have hilt:i<ops.length:=(List.getElem?_eq_some_iff.1 hoi').1
      have hlf:listed.getD i false=false:=getD_both hun
      have inv':=inv.set hi' (by simpa using hilt)
      have hc':(listed.setIfInBounds i true).toList.count false=c:=by have:=zeg (P:=P) hval' hok (hfl' []) hdst hun;omega
      have hij:i<=j0:=by
       rcases Nat.lt_or_ge j0 i with h' | h'
       · have:=zeu (P:=P) hval' hok (hfl' []) hdst inv hi' (hlate i h' hilt k (by omega))
         rw [hkf] at this;cases this
       · exact h'
      have hpair:∀ k ok,k<i->ops[k]? = some ok->listed.getD k false=false->Free ops ok oi/\¬ (mv.contains k=true/\mv.contains i=true):=fun k ok hk hok' hkf=>by
       rcases hok.pair k i ok oi hk hok' hoi' with h' | ⟨h1,h2⟩
       · rw [zeu (P:=P) hval' hok (hfl' []) hdst inv hi' h'] at hkf;cases hkf
       · exact ⟨zjJ h1,h2⟩
      have hLe:∀ j,j≠i->(listed.setIfInBounds i true).getD j false=listed.getD j false:=fun j hji=>getD_set_ne false (Ne.symm hji)
      have hLi:(listed.setIfInBounds i true).getD i false=true:=by
       have:i<listed.size:=by omega
       simp [this]
      have hLc:∀ {fb F H},RVX P ops mv j0 FL val side K (fun k=>listed.getD k false||k==i) fb 0 ops F H->RVX P ops mv j0 FL val side K (fun k=>(listed.setIfInBounds i true).getD k false) fb 0 ops F H:=fun {fb F H} h =>
       RVX.congrL ops 0 F H (fun j _ _=>by
        by_cases hji:j=i
        · subst hji;rw [hLi];simp
        · have:(j==i)=false:=by simpa using hji
          rw [this,Bool.or_false,hLe j hji]) h
      have hdi:oi.dst.all (· < n)=true:=by
       have:=List.all_eq_true.1 hdst oi (List.mem_of_getElem? hoi')
       simpa using this
      unfold wpOp
      rw [hoi]
      by_cases hi0:i=j0
      · subst hi0
        have ho:oi=o0:=Option.some.inj (hoi'.symm.trans ho0)
        subst ho
        have hgt:gst ops oi F=some true:=by unfold gst;rw [hg0]
        have hw:=zed hr hgt
        simp only [hw,if_true]
        refine .inl ?_
        cases fb with
        | some b=>rw [hlf] at hfb;cases hfb
        | none =>
         simp only [Option.map_none,Option.toList_none,List.append_nil] at hs hr hx
         refine hal (opdF F) H (fun d H'=>∃ b,d=pB b/\H'=FL b::H) (fun b=>⟨b,rfl,rfl⟩) a w _ _ hs (fun x _=>hr.opd x) fun v w' d H' s x r ⟨b,hd,hH⟩=>?_
         subst hd
         subst hH
         have hp:(FL b::H).Perm (H++[FL b]):=(List.perm_append_comm (l₁:=[FL b]) (l₂:=H))
         refine ih _ (some b) (putF F oi.dst (pB b)) H _ w' hc' inv' (by rw [hLi];rfl) (hLc ?_) (s.perm hp) (((hr.ext x).put hdi r).perm hp) ((hx.trans x).trans (Ext.perm hp)) kxcb
         refine RVX.congrL ops 0 _ _ (fun j _ hj=>?_) (RVX.pullF (L:=fun k=>listed.getD k false) hval b (fun k ok h1 h2 h3=>(hpair k ok h1 h2 h3).1) ops 0 F H (fun k _=>by simp) (Nat.zero_le _) (by simpa using hilt) (by simpa using hoi') h)
         have:(j==i)=false:=by simpa using hj
         rw [this,Bool.or_false]
      · have hij':i<j0:=by omega
        have hfb':(listed.setIfInBounds i true).getD j0 false=fb.isSome:=by rw [hLe j0 (fun e=>hi0 e.symm)];exact hfb
        obtain ⟨⟨b,hb⟩,hside⟩:=RVX.known hval hok hfl hdst (L:=fun k=>listed.getD k false) (fb.map FL).toList hij' hlf (fun k ok h1 h2 h3=>(hpair k ok h1 h2 h3).1) ops 0 F H a w (fun k _=>by simp) (Nat.zero_le _) (by simpa using hilt) (by simpa using hoi') hs hr h
        have hw:=zed hr hb
        simp only [hw]
        cases b with
        | false =>
         simp only [Bool.false_eq_true,if_false]
         refine ih _ fb (putF F oi.dst (.tup [])) H _ w hc' inv' hfb' (hLc ?_) hs (hr.put hdi (R.skipped _ _)) hx kxcb
         exact RVX.pull hval hij' hlf (fun k ok h1 h2 h3=>(hpair k ok h1 h2 h3).1) ops 0 F H _ (fun k _=>by simp) (Nat.zero_le _) (by simpa using hilt) (by simpa using hoi') (fun _=>rfl) (fun h'=>by rw [hb] at h';cases h') h
        | true =>
         simp only [if_true]
         refine .inl ?_
         cases hm:mv.contains i with
         | true =>
          refine RVX.pullM hval hij' hlf hm (fun k ok h1 h2 h3=>?_) ops 0 F H (fun k _=>by simp) (Nat.zero_le _) (by simpa using hilt) (by simpa using hoi') hb h (fb.map FL).toList a w _ _ hs (fun x _=>hr.opd x) fun v w' d H' s x r ⟨H1,hp,k'⟩=>?_
          · obtain ⟨g1,g2⟩:=hpair k ok h1 h2 h3
            refine ⟨g1,?_⟩
            cases hmk:mv.contains k with
            | true=>exact absurd ⟨hmk,hm⟩ g2
            | false=>rfl
          · exact ih _ fb _ H1 _ w' hc' inv' hfb' (hLc k') (s.perm hp) (((hr.ext x).put hdi r).perm hp) ((hx.trans x).trans (Ext.perm hp)) kxcb
         | false =>
          refine hfl i oi hoi' hm hi0 _ _ (hside hb hm) a w _ _ hs (fun x _=>hr.opd x) fun v w' d H' s x r ⟨hd,hH⟩=>?_
          subst hd
          subst hH
          refine ih _ fb _ H _ w' hc' inv' hfb' (hLc ?_) s ((hr.ext x).put hdi r) (hx.trans x) kxcb
          exact RVX.pull hval hij' hlf (fun k ok h1 h2 h3=>(hpair k ok h1 h2 h3).1) ops 0 F H _ (fun k _=>by simp) (Nat.zero_le _) (by simpa using hilt) (by simpa using hoi') (fun h'=>by rw [hb] at h';cases h') (fun _=>⟨hm,rfl⟩) h
end
section
variable {P:Program} {n:Nat} {Q:Exit->Env->Own->Prop} {e:Env} {H:Own}
def DVX (P:Program) (mv:List Nat) (j0:Nat) (ops:Array Oper) (K:Env->Own->Prop):Nat->List Oper->Env->Own->Prop
 | _,[],_,_=>False
 | i,o::rest,e,H=>o.guard=none /\
  if i=j0 then ∃ t,o.op = .alloc t/\((ty P t).zero≠[]/\(ty P t).kind≠0/\(ty P t).kind≠11)/\∀ b,DV P mv [] ops K (i+1) rest (putO e o.dst (.raw (.pointer (some ⟨b,0,none⟩)))) (.blk b (ty P t).zero::H)
  else if mv.contains i=true then ∀ X:Own,DOp P o (opd e) (H++X) fun d H'=>∃ H1:Own,H'.Perm (H1++X)/\DVX P mv j0 ops K (i+1) rest (putO e o.dst d) H1
  else side P o (opd e)/\DVX P mv j0 ops K (i+1) rest (putO e o.dst (val P o (opd e))) H
@[congr] theorem DVX_congr (P:Program) (mv:List Nat) (j0:Nat) (ops:Array Oper) (K:Env->Own->Prop) (i:Nat) (l:List Oper) {e e':Env} {H H':Own} (h:e=e') (hH:H=H'):DVX P mv j0 ops K i l e H=DVX P mv j0 ops K i l e' H':=by rw [h,hH]
def PXK (H' X:Own) (A:Own->Prop):Prop:=∃ H1:Own,H'.Perm (H1++X)/\A H1
theorem PXK.base {F X:Own} {A:Own->Prop} (h:A F):PXK (F++X) X A:=⟨F,List.Perm.refl _,h⟩
theorem PXK.none {X:Own} {A:Own->Prop} (h:A []):PXK X X A:=⟨[],List.Perm.refl _,h⟩
theorem PXK.cons {e:Ent} {H' X:Own} {A:Own->Prop} (h:PXK H' X fun H1=>A (e::H1)):PXK (e::H') X A:=by
 obtain ⟨H1,hp,h⟩:=h
 exact ⟨e::H1,List.Perm.cons e hp,h⟩
end
end Go.Proofs.YtgekknefphagbaaGreatDoor
namespace Go.Proofs.YtgekknefphagbaaGreatDoor
open Go.RowKit
set_option linter.unusedSimpArgs false
set_option linter.unusedVariables false
set_option linter.unusedSectionVars false
theorem DOp.app0a_ {P:Program} {o:Oper} {f:Operand->V} {H:Own} {K:V->Own->Prop} {s x:Operand} {sT xT:TypeId} {xs:List V} (arr:List Nat) (hd:o.dst.any (fun d=>arr.contains d)=true) (hop:o.op = .call { callee:=.builtin .append,args:=#[s,x],argTypes:=#[sT,xT] }) (hfs:f s = .gs (.slice none 0 0) []) (hfx:srcL (f x)=some xs) (hne:x≠s)
  (h:AppA P sT xT 0 xs/\∀ v',K (.ar v' xs.length) (.arr (ty P (ty P sT).elem).size v' (cells xs)::H)):DOp P o f H K:=fun a w next Q hs hr hn=>by
 classical
 obtain ⟨g1,g2⟩:=hs.arr0 (ty P (ty P sT).elem).size
 refine DOp.appa_ (K:=K) (f:=fun y=>if y=s then .ar (.slice none 0 0) 0 else f y) (H:=.arr (ty P (ty P sT).elem).size (.slice none 0 0) []::H) (v:=.slice none 0 0) (n:=0) (xs:=xs) hop (by simp) (by simp [hne,hfx]) ⟨_,_,On.here ⟨rfl,h.1,fun v'=>by simpa using h.2 v'⟩⟩ a w next Q g1 (fun y hy=>?_) fun v w' d H' s' ex r k=>hn v w' d H' s' (g2.trans ex) r k
 by_cases hys:y=s
 · have hy':=hr y hy
   rw [hys] at hy' ⊢
   rw [hfs] at hy'
   simp only [if_true]
   generalize a.eval s=u at hy' ⊢
   cases hy'
   exact .ar _ _ _ (Nat.le_refl _) (fun _=>rfl)
 · show R _ _ _ (if y=s then _ else f y)
   rw [if_neg hys]
   exact g2.rel (hr y hy)
theorem zqA {H:Own} {v:Value} {G:Nat->(Ent->Own)->Prop} (h:OnT H v G):OnT H v G:=h
section
variable {P:Program} {n:Nat} {Q:Exit->Env->Own->Prop} {e e':Env} {H:Own}
theorem DVop.loada_ {mv tm:List Nat} {ops:Array Oper} {K:Env->Own->Prop} {i:Nat} {o:Oper} {rest:List Oper} {t:TypeId} {x:Operand} {v:Value} {k:Nat} (hm:mv.contains i=false) (ht:tm.contains i=true) (hop:o.op = .load t x) (hx:opd e x = .ep v k)
  (h:OnA H v fun _ cs _=>((ty P t).size≠0/\zdO (ty P t) (cs.drop k) 0)/\FD P (mv++tm) ops (fun i' l' e'=>DV P mv tm ops K i' l' e' H) (i+1) rest (putO e o.dst (zcw (ty P t) (cs.drop k) 0))):DVop P mv tm ops K i o rest e H:=by
 obtain ⟨sz,cs,L1,L2,hH,h1,h2⟩:=h
 exact DVop.tm_ hm ht (DOp.loada_ hop hx ⟨sz,cs,L1,L2,hH,h1,rfl,rfl⟩) h2
end
end Go.Proofs.YtgekknefphagbaaGreatDoor
namespace Go.Proofs.YtgekknefphagbaaGreatDoor
open Go.RowKit
set_option linter.unusedSimpArgs false
set_option linter.unusedVariables false
set_option linter.unusedSectionVars false
theorem On.skip {M H:Own} {e:Ent} {G:(Ent->Own)->Prop} (h:On H e fun C=>G fun x=>M++C x):On (M++H) e G:=by
 obtain ⟨L1,L2,rfl,h⟩:=h
 exact ⟨M++L1,L2,by simp,by simpa using h⟩
theorem OnB.skip {M H:Own} {b:Nat} {G:List V->(Ent->Own)->Prop} (h:OnB H b fun cs C=>G cs fun x=>M++C x):OnB (M++H) b G:=by
 obtain ⟨cs,h⟩:=h
 exact ⟨cs,On.skip h⟩
theorem OnT.skip {M H:Own} {v:Value} {G:Nat->(Ent->Own)->Prop} (h:OnT H v fun sz C=>G sz fun x=>M++C x):OnT (M++H) v G:=by
 obtain ⟨sz,h⟩:=h
 exact ⟨sz,On.skip h⟩
theorem OnA.skip {M H:Own} {v:Value} {G:Nat->List V->(Ent->Own)->Prop} (h:OnA H v fun sz cs C=>G sz cs fun x=>M++C x):OnA (M++H) v G:=by
 obtain ⟨sz,cs,h⟩:=h
 exact ⟨sz,cs,On.skip h⟩
theorem zkX (M:Own) (e:Ent) (F:Own):(M++e::F).Perm (e::(M++F)):=List.perm_middle
theorem zeF (M L F:Own):(M++(L++F)).Perm (L++(M++F)):=by
 rw [<-List.append_assoc,<-List.append_assoc];exact (List.perm_append_comm).append_right F
theorem Out.skip {M H:Own} {e:Ent} {G:Own->Prop} (h:Out H e fun F=>G (M++F)):Out (M++H) e G:=by
 obtain ⟨F,h1,h2⟩:=h
 exact ⟨M++F,(h1.append_left M).trans (zkX M e F),h2⟩
theorem Took.skip {M H F:Own} {e:Ent} (h:Took H e F):Took (M++H) e (M++F):=(List.Perm.append_left M h).trans (zkX M e F)
def OutL (H L:Own) (G:Own->Prop):Prop:=∃ F,H.Perm (L++F)/\G F
theorem OutL.here {H L:Own} {G:Own->Prop} (h:G H):OutL (L++H) L G:=⟨H,List.Perm.refl _,h⟩
theorem OutL.next {H L:Own} {y:Ent} {G:Own->Prop} (h:OutL H L fun F=>G (y::F)):OutL (y::H) L G:=by
 obtain ⟨F,h1,h2⟩:=h
 exact ⟨y::F,(h1.cons y).trans List.perm_middle.symm,h2⟩
theorem OutL.skip {M H L:Own} {G:Own->Prop} (h:OutL H L fun F=>G (M++F)):OutL (M++H) L G:=by
 obtain ⟨F,h1,h2⟩:=h
 exact ⟨M++F,(h1.append_left M).trans (zeF M L F),h2⟩
def TookL (H L F:Own):Prop:=H.Perm (L++F)
theorem TookL.here {H L:Own}:TookL (L++H) L H:=List.Perm.refl _
theorem TookL.next {H L F:Own} {y:Ent} (h:TookL H L F):TookL (y::H) L (y::F):=(List.Perm.cons y h).trans List.perm_middle.symm
theorem TookL.skip {M H L F:Own} (h:TookL H L F):TookL (M++H) L (M++F):=(List.Perm.append_left M h).trans (zeF M L F)
theorem Pulled.chunk {H F G L es:Own} (h:TookL H L F) (t:Pulled F es G):Pulled H (L++es) G:=by
 have:=List.Perm.trans h (List.Perm.append_left L t)
 rwa [<-List.append_assoc] at this
theorem Pull.chunk {H L es:Own} {G:Own->Prop} (h:OutL H L fun F=>Pull F es G):Pull H (L++es) G:=by
 obtain ⟨F,h1,F',h2,h3⟩:=h
 exact ⟨F',by have:=h1.trans (h2.append_left L);rwa [<-List.append_assoc] at this,h3⟩
theorem SubP.pickL {G H L:Own} (h:OutL H L fun F=>SubP G F):SubP (L++G) H:=by
 obtain ⟨F,h1,M,h2,h3⟩:=h
 exact SubP.perm h1 ⟨L++M,h2.append_left L,h3.append_left L⟩
theorem SubP.dropL {G H M:Own} (h:SubP G H):SubP G (M++H):=by
 obtain ⟨L,h1,h2⟩:=h
 exact ⟨L,h1,h2.trans (List.sublist_append_right M H)⟩
section
variable {P:Program} {n:Nat} {Q:Exit->Env->Own->Prop} {e:Env} {H:Own} {c:Code}
theorem DW.perm {H':Own} (hp:H.Perm H') (h:DW P n c Q e H'):DW P n c Q e H:=fun a w hs hr =>
 wp_mono (h a w (hs.perm hp) (hr.ext (Ext.perm hp))) fun x a1 w1 ⟨hd,e1,H1,s,r,x1,q⟩=>⟨hd,e1,H1,s,r,(Ext.perm hp).trans x1,q⟩
theorem DW.apart (h:H.Pairwise (fun e f=>∀ b,e.touches b->¬ f.touches b)->DW P n c Q e H):DW P n c Q e H:=fun a w hs hr=>h hs.apart a w hs hr
end
end Go.Proofs.YtgekknefphagbaaGreatDoor
