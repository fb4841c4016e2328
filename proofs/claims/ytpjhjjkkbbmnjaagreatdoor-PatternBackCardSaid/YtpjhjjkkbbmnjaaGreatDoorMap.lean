/- Maps, entry by entry: what an insert and a look-up come to where the entries are known. No program. -/
import Derived.WalkKit
import Derived.RangeFuncRecord
namespace Go.Vir
open Go Go.RowKit

def plainKey : TypeDesc → Bool
  | .int _ => true
  | .string => true
  | .bool => true
  | _ => false

section
variable {P : Program} {t K E : TypeId} {kd : TypeDesc} {r : Nat} {es : Array MapEntry} {clock : Nat} {key v : Value} {w : World}

theorem run_checkKey (b : Bool) (hk : P.underlying K = some kd) (hp : plainKey kd = true) : (Instr.checkKey b 10000 K key).run P w = .ok () w := by
  show (Instr.checkKey b (9999 + 1) K key).run P w = .ok () w
  unfold Instr.checkKey
  simp only [Sem.run_bind, run_underlying hk, Result.andThen]
  cases kd <;> first | (simp [plainKey] at hp; done) | (cases key <;> rfl)

theorem run_findKey (hk : P.underlying K = some kd) {x : Option (Nat × Value)} {l : List MapEntry} (hf : Instr.findNow kd key l 0 = some x) : (Instr.findKey K key l).run P w = .ok x w := by
  unfold Instr.findKey
  simp only [Sem.run_bind, run_underlying hk, Result.andThen, hf]
  rfl

theorem run_getMap (hb : w.heap[r]? = some (.map es clock)) : (getObj r).run P w = .ok (.map es clock) w := by simp [getObj, Sem.run, hb]
theorem run_setMap (o : Obj) (hb : w.heap[r]? = some (.map es clock)) : (setObj r o).run P w = .ok () (w.putObj r o) := by simp [setObj, Sem.run, hb, World.putObj]

theorem run_insert_new (ht : P.underlying t = some (.map K E)) (hk : P.underlying K = some kd) (hp : plainKey kd = true) (hb : w.heap[r]? = some (.map es clock)) (hf : Instr.findNow kd key es.toList 0 = some none) :
    (Instr.mapUpdate t (.map (some r)) key v).run P w = .ok () (w.putObj r (.map (es.push { key, val := v, born := clock }) (clock + 1))) := by
  unfold Instr.mapUpdate
  simp only [Sem.run_bind, run_underlying ht, Result.andThen, run_getMap hb, run_checkKey false hk hp, run_findKey hk hf, run_setMap _ hb]

theorem run_lookup_at (ok : Bool) (ht : P.underlying t = some (.map K E)) (hk : P.underlying K = some kd) (hp : plainKey kd = true) (hb : w.heap[r]? = some (.map es clock)) {i : Nat} {u : Value} (hf : Instr.findNow kd key es.toList 0 = some (some (i, u))) :
    (Instr.lookup t (.map (some r)) key ok).run P w = .ok (if ok then .tuple #[u, .bool true] else u) w := by
  unfold Instr.lookup
  simp only [Sem.run_bind, run_underlying ht, Result.andThen, run_getMap hb, run_checkKey _ hk hp, run_findKey hk hf, Sem.run_pure]

theorem run_lookup_none (ok : Bool) {z : Value} (ht : P.underlying t = some (.map K E)) (hk : P.underlying K = some kd) (hp : plainKey kd = true) (hb : w.heap[r]? = some (.map es clock)) (hz : (zeroValue E).run P w = .ok z w) (hf : Instr.findNow kd key es.toList 0 = some none) :
    (Instr.lookup t (.map (some r)) key ok).run P w = .ok (if ok then .tuple #[z, .bool false] else z) w := by
  unfold Instr.lookup
  simp only [Sem.run_bind, run_underlying ht, Result.andThen, run_getMap hb, run_checkKey _ hk hp, run_findKey hk hf, Sem.run_pure, hz]

theorem wpList_insert_new {ops : Array Oper} {rest : List Oper} {o : Oper} {a : Act} {Q : Exit → Act → World → Prop} (hg : o.guard = none) {m k x : Operand} (hop : o.op = .insert t m k x)
    (hm : a.eval m = .map (some r)) (hkv : a.eval k = key) (hxv : a.eval x = v)
    (ht : P.underlying t = some (.map K E)) (hk : P.underlying K = some kd) (hp : plainKey kd = true) (hb : w.heap[r]? = some (.map es clock)) (hf : Instr.findNow kd key es.toList 0 = some none)
    (h : wpList P ops Q rest (a.put o.dst undef) (w.putObj r (.map (es.push { key, val := v, born := clock }) (clock + 1)))) : wpList P ops Q (o :: rest) a w := by
  refine wpList_plain hg fun Kn hK => ?_
  unfold Oper.wp
  simp only [execOp, hop, hm, hkv, hxv, Sem.run_bind, run_insert_new ht hk hp hb hf, Result.andThen]
  exact hK _ _ h

theorem wpList_lookup_at {ops : Array Oper} {rest : List Oper} {o : Oper} {a : Act} {Q : Exit → Act → World → Prop} (hg : o.guard = none) {m k : Operand} {ok : Bool} (hop : o.op = .lookup t m k ok)
    (hm : a.eval m = .map (some r)) (hkv : a.eval k = key)
    (ht : P.underlying t = some (.map K E)) (hk : P.underlying K = some kd) (hp : plainKey kd = true) (hb : w.heap[r]? = some (.map es clock)) {i : Nat} {u : Value} (hf : Instr.findNow kd key es.toList 0 = some (some (i, u)))
    (h : wpList P ops Q rest (a.put o.dst (if ok then .tuple #[u, .bool true] else u)) w) : wpList P ops Q (o :: rest) a w := by
  refine wpList_plain hg fun Kn hK => ?_
  unfold Oper.wp
  simp only [execOp, hop, hm, hkv, Sem.run_bind, run_lookup_at ok ht hk hp hb hf, Result.andThen]
  exact hK _ _ h

theorem wpList_update_new {ops : Array Oper} {rest : List Oper} {o : Oper} {a : Act} {Q : Exit → Act → World → Prop} (hg : o.guard = none) {m k x : Operand} (hop : o.op = .mapUpdate t m k x)
    (hm : a.eval m = .map (some r)) (hkv : a.eval k = key) (hxv : a.eval x = v)
    (ht : P.underlying t = some (.map K E)) (hk : P.underlying K = some kd) (hp : plainKey kd = true) (hb : w.heap[r]? = some (.map es clock)) (hf : Instr.findNow kd key es.toList 0 = some none)
    (h : wpList P ops Q rest (a.put o.dst undef) (w.putObj r (.map (es.push { key, val := v, born := clock }) (clock + 1)))) : wpList P ops Q (o :: rest) a w := by
  refine wpList_plain hg fun Kn hK => ?_
  unfold Oper.wp
  simp only [execOp, hop, hm, hkv, hxv, Sem.run_bind, run_insert_new ht hk hp hb hf, Result.andThen]
  exact hK _ _ h
end
end Go.Vir
