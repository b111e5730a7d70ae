/- ArenaAlone's first loop: its head, its round's sums. -/
import Derived.Test.YtoogepoalbhlhaaLwXB
import Derived.Test.YtoogepoalbhlhaaLwXA
set_option linter.unusedVariables false
set_option linter.unusedSimpArgs false

section
namespace Go.Proofs.Ytoogepoalbhlhaa
open Go Go.Sy Go.RowKit

def headsFa (P : Program) : List Tgt := [⟨.normal, (hFa P).fr, (hFa P).hp, pFa P⟩]
def sumFa (P : Program) : Option (List SumT) := (bodyFa P).bind fun ls => sumsHd P nFa LO7 SZ7 (headsFa P) (gFa P) (ls.map withRows)
end Go.Proofs.Ytoogepoalbhlhaa
end

section
namespace Go.Proofs.Ytoogepoalbhlhaa
open Go Go.Sy Go.RowKit

def entFa : List Tgt := [
  ⟨.normal, [(.int .i64 (.var 11)), (.sl 0 (.var 8) (.len (.var 0)) (.var 9)), (.tup []), (.tup []), (.bool (.lit false)), (.ptr 4149515568899892254717959488744183311062551547547731794544774035273380532025856936150436481870441350779126630908129548779228898142448907688728920084719212744523434601557597511221248 (.lit 0)), (.ptr 4149515568903666217142781070476971404650345924921356815830453617446253018313349803378710947556433989952369598715690876086613344600686813670939880847055850928817076003461963249090560 (.lit 0)), (.int .i64 (.lit 0)), (.ptr 4149515568907425437526880679551295875270284677455179624388286647548403793979210885150574301410132856134595778735552553411825466418795347845736657839622433148593270222257246592565248 (.lit 0)), (.int .i64 (.lit 0)), (.sl 4149515568918732582760623277213576696822328921151606112199821733974414874415364388023628537467965061539974474286715472932702789524409481154186122760439578029575508763838003476955136 (.lit 0) (.lit 0) (.lit 0)), (.sl 4149515568918747324801345236359483890394910906576961256423338985694838218971224722493012881799418522972494699516276181793542753445678620883032333404160798972678053422806923982405632 (.lit 0) (.lit 0) (.lit 0)), (.int .i64 (.var 11)), (.tup []), (.tup []), (.tup []), (.tup []), (.tup []), (.tup []), (.tup []), (.tup []), (.bool (.lit true)), (.bool (.lit false)), (.int .i64 (.var 11)), (.bool (.lit false)), (.bool (.lit false)), (.int .i64 (.var 11)), (.bool (.lit false)), (.bool (.lit false)), (.bool (.lit false)), (.sl 0 (.var 8) (.len (.var 0)) (.var 9)), (.int .i64 (.len (.var 0))), (.bool (.lit false)), (.bool (.lit false)), (.int .i64 (.var 11)), (.agg [(.int .i64 (.lit 0)), (.int .i64 (.var 11))]), (.tup [(.ptr 4149515568903666217142781070476971404650345924921356815830453617446253018313349803378710947556433989952369598715690876086613344600686813670939880847055850928817076003461963249090560 (.lit 0)), (.int .i64 (.lit 0))]), (.int .i64 (.var 11)), (.int .i64 (.add (.var 11) (.lit 1))), (.tup [(.ptr 4149515568903666217142781070476971404650345924921356815830453617446253018313349803378710947556433989952369598715690876086613344600686813670939880847055850928817076003461963249090560 (.lit 0)), (.int .i64 (.lit 0))]), (.ptr 4149515568903666217142781070476971404650345924921356815830453617446253018313349803378710947556433989952369598715690876086613344600686813670939880847055850928817076003461963249090560 (.lit 0)), (.int .i64 (.lit 0)), (.tup [(.ptr 4149515568907425437526880679551295875270284677455179624388286647548403793979210885150574301410132856134595778735552553411825466418795347845736657839622433148593270222257246592565248 (.lit 0)), (.int .i64 (.lit 0))]), (.ptr 4149515568903666217142781070476971404650345924921356815830453617446253018313349803378710947556433989952369598715690876086613344600686813670939880847055850928817076003461963249090560 (.lit 0)), (.tup [(.ptr 4149515568907425437526880679551295875270284677455179624388286647548403793979210885150574301410132856134595778735552553411825466418795347845736657839622433148593270222257246592565248 (.lit 0)), (.int .i64 (.lit 0))]), (.ptr 4149515568907425437526880679551295875270284677455179624388286647548403793979210885150574301410132856134595778735552553411825466418795347845736657839622433148593270222257246592565248 (.lit 0)), (.int .i64 (.lit 0)), (.agg [(.int .i64 (.lit 0)), (.int .i64 (.var 11))]), (.ptr 4149515568903666217142781070476971404650345924921356815830453617446253018313349803378710947556433989952369598715690876086613344600686813670939880847055850928817076003461963249090560 (.lit 0)), (.int .i64 (.lit 0)), (.bool (.lit false)), (.bool (.lit false)), (.int .i64 (.lit 0)), (.bool (.lit false)), (.bool (.lit false)), (.sl 4149515568918732582760623277213576696822328921151606112199821733974414874415364388023628537467965061539974474286715472932702789524409481154186122760439578029575508763838003476955136 (.lit 0) (.lit 0) (.lit 0)), (.sl 4149515568918747324801345236359483890394910906576961256423338985694838218971224722493012881799418522972494699516276181793542753445678620883032333404160798972678053422806923982405632 (.lit 0) (.lit 0) (.lit 0)), (.int .i64 (.var 11)), (.tup []), (.tup []), (.tup []), (.tup []), (.tup []), (.tup []), (.tup []), (.tup []), (.tup []), (.tup []), (.tup []), (.tup []), (.tup []), (.tup []), (.tup []), (.tup []), (.tup []), (.tup []), (.tup []), (.tup []), (.tup []), (.tup []), (.tup []), (.tup []), (.tup []), (.tup []), (.tup []), (.tup []), (.tup []), (.tup []), (.tup []), (.tup []), (.tup []), (.tup []), (.tup []), (.tup []), (.tup []), (.tup []), (.tup []), (.tup []), (.tup []), (.tup []), (.tup []), (.tup []), (.tup []), (.tup []), (.tup []), (.tup []), (.tup []), (.tup []), (.tup []), (.tup []), (.tup []), (.tup []), (.tup []), (.tup []), (.tup []), (.tup []), (.tup []), (.tup []), (.tup []), (.tup []), (.tup []), (.tup []), (.tup []), (.tup []), (.tup []), (.tup []), (.tup []), (.tup []), (.tup []), (.tup []), (.tup []), (.tup []), (.tup []), (.tup []), (.tup []), (.tup []), (.tup []), (.tup []), (.tup []), (.tup []), (.tup []), (.tup []), (.tup []), (.tup []), (.tup []), (.tup []), (.tup []), (.tup []), (.tup []), (.tup []), (.tup []), (.tup []), (.tup []), (.tup []), (.tup []), (.tup []), (.tup []), (.tup []), (.tup []), (.tup []), (.tup []), (.tup []), (.tup []), (.tup []), (.tup []), (.tup []), (.tup []), (.tup []), (.tup []), (.tup []), (.tup []), (.tup []), (.tup []), (.tup []), (.tup []), (.tup []), (.tup []), (.tup []), (.tup []), (.tup []), (.tup []), (.tup []), (.tup []), (.tup []), (.tup []), (.tup [])], [(0, (.view .u8 (.var 8) (.var 0))), (4149515568899892254717959488744183311062551547547731794544774035273380532025856936150436481870441350779126630908129548779228898142448907688728920084719212744523434601557597511221248, (.cells [(.int .i64 (.lit 0)), (.int .i64 (.var 11))] 69 true)), (4149515568903666217142781070372222905197669385080934745531970444575320472839971730115245623777357708467420012959426233132184411571858439778857958574760898719348743425755450366230528, (.row .u64 (.gl 0 (.app 22 (.var 0) (.var 0) (.lit 0) (.var 11) (.lit 1) (.add (.var 11) (.lit 1)) (.rep (.add (.var 11) (.lit 1)) (.lit 0))) (.lit 0) (.lit 0)) (.nat (.add (.var 11) (.lit 1))) 51)), (4149515568903666217142781070476971404650345924921356815830453617446253018313349803378710947556433989952369598715690876086613344600686813670939880847055850928817076003461963249090560, (.cells [(.sl 4149515568903666217142781070372222905197669385080934745531970444575320472839971730115245623777357708467420012959426233132184411571858439778857958574760898719348743425755450366230528 (.lit 0) (.nat (.add (.var 11) (.lit 1))) (.nat (.add (.var 11) (.lit 1))))] 124 true)), (4149515568907425437526880679446547375817608137614757554089803474677471248505832811887108977631056574649646192979287910457396533389966973953654735567327480939124937644550733709705216, (.cells [.nilPtr] 75 true)), (4149515568907425437526880679551295875270284677455179624388286647548403793979210885150574301410132856134595778735552553411825466418795347845736657839622433148593270222257246592565248, (.cells [(.ptr 4149515568903666217142781070476971404650345924921356815830453617446253018313349803378710947556433989952369598715690876086613344600686813670939880847055850928817076003461963249090560 (.lit 0)), (.sl 4149515568907425437526880679446547375817608137614757554089803474677471248505832811887108977631056574649646192979287910457396533389966973953654735567327480939124937644550733709705216 (.lit 0) (.lit 1) (.lit 1)), (.int .i64 (.lit 0))] 134 true)), (4149515568918732582760623277213576696822328921151606112199821733974414874415364388023628537467965061539974474286715472932702789524409481154186122760439578029575508763838003476955136, (.cells [] 3 true)), (4149515568918747324801345236359483890394910906576961256423338985694838218971224722493012881799418522972494699516276181793542753445678620883032333404160798972678053422806923982405632, (.cells [] 3 true))], [((.lt (.var 8) (.lit 0)), false), ((.lt (.var 9) (.len (.var 0))), false), ((.lt (.var 11) (.lit 1)), false), ((.lt (.lit 20) (.var 11)), false), ((.lt (.lit 100) (.len (.var 0))), false), ((.gb 0 (.app 45 (.var 0) (.var 0) (.lit 0) (.lit 255) (.lit 0) (.lit 0) (.var 0)) (.lit 0) (.lit 0)), true)]⟩]
def headsF : List Tgt := [
  ⟨.normal, [.dead, (.sl 0 (.var 8) (.len (.var 0)) (.var 9)), .dead, .dead, .dead, (.ptr 4149515568899892254717959488744183311062551547547731794544774035273380532025856936150436481870441350779126630908129548779228898142448907688728920084719212744523434601557597511221248 (.lit 0)), (.ptr 4149515568903666217142781070476971404650345924921356815830453617446253018313349803378710947556433989952369598715690876086613344600686813670939880847055850928817076003461963249090560 (.lit 0)), .dead, (.ptr 4149515568907425437526880679551295875270284677455179624388286647548403793979210885150574301410132856134595778735552553411825466418795347845736657839622433148593270222257246592565248 (.lit 0)), .dead, (.sl (nFa + 6) (.lit 0) (.len (.var (nFa + 9))) (.var (nFa + 4))), (.sl 4149515568918747324801345236359483890394910906576961256423338985694838218971224722493012881799418522972494699516276181793542753445678620883032333404160798972678053422806923982405632 (.lit 0) (.lit 0) (.lit 0)), (.int .i64 (.var (nFa + 0))), .dead, .dead, .dead, .dead, .dead, .dead, .dead, .dead, .dead, .dead, .dead, .dead, .dead, .dead, .dead, .dead, .dead, .dead, .dead, .dead, .dead, .dead, .dead, .dead, .dead, .dead, .dead, .dead, .dead, .dead, .dead, .dead, .dead, .dead, .dead, .dead, .dead, .dead, .dead, .dead, .dead, .dead, .dead, .dead, .dead, .dead, .dead, .dead, .dead, .dead, .dead, .dead, .dead, .dead, .dead, .dead, .dead, .dead, .dead, .dead, .dead, .dead, .dead, .dead, .dead, .dead, .dead, .dead, .dead, .dead, .dead, .dead, .dead, .dead, .dead, .dead, .dead, .dead, .dead, .dead, .dead, .dead, .dead, .dead, .dead, .dead, .dead, .dead, .dead, .dead, .dead, .dead, .dead, .dead, .dead, .dead, .dead, .dead, .dead, .dead, .dead, .dead, .dead, .dead, .dead, .dead, .dead, .dead, .dead, .dead, .dead, .dead, .dead, .dead, .dead, .dead, .dead, .dead, .dead, .dead, .dead, .dead, .dead, .dead, .dead, .dead, .dead, .dead, .dead, .dead, .dead, .dead, .dead, .dead, .dead, .dead, .dead, .dead, .dead, .dead, .dead, .dead, .dead, .dead, .dead, .dead, .dead, .dead, .dead, .dead, .dead, .dead, .dead, .dead, .dead, .dead, .dead, .dead, .dead, .dead, .dead, .dead, .dead, .dead, .dead, .dead, .dead, .dead, .dead, .dead, .dead, .dead, .dead], [(0, (.view .u8 (.var 8) (.var 0))), (4149515568899892254717959488744183311062551547547731794544774035273380532025856936150436481870441350779126630908129548779228898142448907688728920084719212744523434601557597511221248, (.cells [(.int .i64 (.lit 0)), (.int .i64 (.var 11))] 69 true)), (4149515568903666217142781070372222905197669385080934745531970444575320472839971730115245623777357708467420012959426233132184411571858439778857958574760898719348743425755450366230528, (.row .u64 (.gl 0 (.app 22 (.var 0) (.var 0) (.lit 0) (.var 11) (.lit 1) (.add (.var 11) (.lit 1)) (.rep (.add (.var 11) (.lit 1)) (.lit 0))) (.lit 0) (.lit 0)) (.nat (.add (.var 11) (.lit 1))) 51)), (4149515568903666217142781070476971404650345924921356815830453617446253018313349803378710947556433989952369598715690876086613344600686813670939880847055850928817076003461963249090560, (.cells [(.sl 4149515568903666217142781070372222905197669385080934745531970444575320472839971730115245623777357708467420012959426233132184411571858439778857958574760898719348743425755450366230528 (.lit 0) (.nat (.add (.var 11) (.lit 1))) (.nat (.add (.var 11) (.lit 1))))] 124 true)), (4149515568907425437526880679446547375817608137614757554089803474677471248505832811887108977631056574649646192979287910457396533389966973953654735567327480939124937644550733709705216, (.cells [.nilPtr] 75 true)), (4149515568907425437526880679551295875270284677455179624388286647548403793979210885150574301410132856134595778735552553411825466418795347845736657839622433148593270222257246592565248, (.cells [(.ptr 4149515568903666217142781070476971404650345924921356815830453617446253018313349803378710947556433989952369598715690876086613344600686813670939880847055850928817076003461963249090560 (.lit 0)), (.sl 4149515568907425437526880679446547375817608137614757554089803474677471248505832811887108977631056574649646192979287910457396533389966973953654735567327480939124937644550733709705216 (.lit 0) (.lit 1) (.lit 1)), (.int .i64 (.lit 0))] 134 true)), (4149515568918747324801345236359483890394910906576961256423338985694838218971224722493012881799418522972494699516276181793542753445678620883032333404160798972678053422806923982405632, (.cells [] 3 true)), ((nFa + 6), (.row .i64 (.var (nFa + 9)) (.var (nFa + 4)) 3))], [((.lt (.var (nFa + 0)) (.lit 0)), false), ((.lt (.lit 20) (.var (nFa + 0))), false), ((.lt (.lit 20) (.len (.var (nFa + 9)))), false), ((.lt (.var 8) (.lit 0)), false), ((.lt (.var 9) (.len (.var 0))), false), ((.lt (.var 11) (.lit 1)), false), ((.lt (.lit 20) (.var 11)), false), ((.lt (.lit 100) (.len (.var 0))), false), ((.gb 0 (.app 45 (.var 0) (.var 0) (.lit 0) (.lit 255) (.lit 0) (.lit 0) (.var 0)) (.lit 0) (.lit 0)), true)]⟩]
def tgF : List Tgt := [
  ⟨.exit 0, [.dead, (.sl 0 (.var 8) (.len (.var 0)) (.var 9)), .dead, .dead, .dead, (.ptr 4149515568899892254717959488744183311062551547547731794544774035273380532025856936150436481870441350779126630908129548779228898142448907688728920084719212744523434601557597511221248 (.lit 0)), (.ptr 4149515568903666217142781070476971404650345924921356815830453617446253018313349803378710947556433989952369598715690876086613344600686813670939880847055850928817076003461963249090560 (.lit 0)), .dead, (.ptr 4149515568907425437526880679551295875270284677455179624388286647548403793979210885150574301410132856134595778735552553411825466418795347845736657839622433148593270222257246592565248 (.lit 0)), .dead, (.sl (nFa + 6) (.lit 0) (.len (.gl 0 (.app 23 (.var 0) (.var 0) (.var 11) (.lit 0) (.lit 0) (.lit 0) .nil) (.lit 0) (.lit 0))) (.var (nFa + 4))), (.sl 4149515568918747324801345236359483890394910906576961256423338985694838218971224722493012881799418522972494699516276181793542753445678620883032333404160798972678053422806923982405632 (.lit 0) (.lit 0) (.lit 0)), .dead, .dead, .dead, .dead, .dead, .dead, .dead, .dead, .dead, .dead, .dead, .dead, .dead, .dead, .dead, .dead, .dead, .dead, .dead, .dead, .dead, .dead, .dead, .dead, .dead, .dead, .dead, .dead, .dead, .dead, .dead, .dead, .dead, .dead, .dead, .dead, .dead, .dead, .dead, .dead, .dead, .dead, .dead, .dead, .dead, .dead, .dead, .dead, .dead, .dead, .dead, .dead, .dead, .dead, .dead, .dead, .dead, .dead, .dead, .dead, .dead, .dead, .dead, .dead, .dead, .dead, .dead, .dead, .dead, .dead, .dead, .dead, .dead, .dead, .dead, .dead, .dead, .dead, .dead, .dead, .dead, .dead, .dead, .dead, .dead, .dead, .dead, .dead, .dead, .dead, .dead, .dead, .dead, .dead, .dead, .dead, .dead, .dead, .dead, .dead, .dead, .dead, .dead, .dead, .dead, .dead, .dead, .dead, .dead, .dead, .dead, .dead, .dead, .dead, .dead, .dead, .dead, .dead, .dead, .dead, .dead, .dead, .dead, .dead, .dead, .dead, .dead, .dead, .dead, .dead, .dead, .dead, .dead, .dead, .dead, .dead, .dead, .dead, .dead, .dead, .dead, .dead, .dead, .dead, .dead, .dead, .dead, .dead, .dead, .dead, .dead, .dead, .dead, .dead, .dead, .dead, .dead, .dead, .dead, .dead, .dead, .dead, .dead, .dead, .dead, .dead, .dead, .dead, .dead, .dead, .dead, .dead, .dead, .dead], [(0, (.view .u8 (.var 8) (.var 0))), (4149515568899892254717959488744183311062551547547731794544774035273380532025856936150436481870441350779126630908129548779228898142448907688728920084719212744523434601557597511221248, (.cells [(.int .i64 (.lit 0)), (.int .i64 (.var 11))] 69 true)), (4149515568903666217142781070372222905197669385080934745531970444575320472839971730115245623777357708467420012959426233132184411571858439778857958574760898719348743425755450366230528, (.row .u64 (.gl 0 (.app 22 (.var 0) (.var 0) (.lit 0) (.var 11) (.lit 1) (.add (.var 11) (.lit 1)) (.rep (.add (.var 11) (.lit 1)) (.lit 0))) (.lit 0) (.lit 0)) (.nat (.add (.var 11) (.lit 1))) 51)), (4149515568903666217142781070476971404650345924921356815830453617446253018313349803378710947556433989952369598715690876086613344600686813670939880847055850928817076003461963249090560, (.cells [(.sl 4149515568903666217142781070372222905197669385080934745531970444575320472839971730115245623777357708467420012959426233132184411571858439778857958574760898719348743425755450366230528 (.lit 0) (.nat (.add (.var 11) (.lit 1))) (.nat (.add (.var 11) (.lit 1))))] 124 true)), (4149515568907425437526880679446547375817608137614757554089803474677471248505832811887108977631056574649646192979287910457396533389966973953654735567327480939124937644550733709705216, (.cells [.nilPtr] 75 true)), (4149515568907425437526880679551295875270284677455179624388286647548403793979210885150574301410132856134595778735552553411825466418795347845736657839622433148593270222257246592565248, (.cells [(.ptr 4149515568903666217142781070476971404650345924921356815830453617446253018313349803378710947556433989952369598715690876086613344600686813670939880847055850928817076003461963249090560 (.lit 0)), (.sl 4149515568907425437526880679446547375817608137614757554089803474677471248505832811887108977631056574649646192979287910457396533389966973953654735567327480939124937644550733709705216 (.lit 0) (.lit 1) (.lit 1)), (.int .i64 (.lit 0))] 134 true)), (4149515568918747324801345236359483890394910906576961256423338985694838218971224722493012881799418522972494699516276181793542753445678620883032333404160798972678053422806923982405632, (.cells [] 3 true)), ((nFa + 6), (.row .i64 (.gl 0 (.app 23 (.var 0) (.var 0) (.var 11) (.lit 0) (.lit 0) (.lit 0) .nil) (.lit 0) (.lit 0)) (.var (nFa + 4)) 3))], [((.lt (.var (nFa + 4)) (.len (.gl 0 (.app 23 (.var 0) (.var 0) (.var 11) (.lit 0) (.lit 0) (.lit 0) .nil) (.lit 0) (.lit 0)))), false)]⟩]
def startFa : Mt := ⟨[((nFa + 6), 4149515568918732582760623277213576696822328921151606112199821733974414874415364388023628537467965061539974474286715472932702789524409481154186122760439578029575508763838003476955136)], [(0, (.var 11)), (4, (.lit 0))], [(9, .nil)], [], [((.lit 0), (.len (.var (nFa + 9))))], [], [], []⟩
def pcEFa : PC := [((.lt (.var 8) (.lit 0)), false), ((.lt (.var 9) (.len (.var 0))), false), ((.lt (.var 11) (.lit 1)), false), ((.lt (.lit 20) (.var 11)), false), ((.lt (.lit 100) (.len (.var 0))), false), ((.gb 0 (.app 45 (.var 0) (.var 0) (.lit 0) (.lit 255) (.lit 0) (.lit 0) (.var 0)) (.lit 0) (.lit 0)), true)]
def sumsFa : List SumT := [
  ⟨.normal, 0, ⟨[((nFa + 6), 5260135901548373507240989942417378047854826771559201887739061097795310694511565463251357902679074989379389053399174956006064672697247080962071537959657508479963375788689324718058814739838159232476151897573556224)], [(0, (.sub (.var (nFa + 0)) (.lit 1))), (4, (.var 5260135901548373507240989942417378047854826771559201887739061097795310694511565463251357902679074989379389053399174956006064672697247080962071537959657508479963375788689324718058814739838159232476151897573556224))], [(9, (.app (.var (nFa + 9)) (.cons (.var (nFa + 0)) .nil)))], [], [((.add (.len (.var (nFa + 9))) (.lit 1)), (.len (.var (nFa + 9))))], [], [], []⟩, [((.lt (.var 5260135901548373507240989942417378047854826771559201887739061097795310694511565463251357902679074989379389053399174956006064672697247080962071537959657508479963375788689324718058814739838159232476151897573556224) (.add (.len (.var (nFa + 9))) (.lit 1))), false), ((.lt (.var (nFa + 0)) (.lit 1)), false), ((.lt (.var (nFa + 0)) (.lit 0)), false), ((.lt (.lit 20) (.var (nFa + 0))), false), ((.lt (.lit 20) (.len (.var (nFa + 9)))), false), ((.lt (.var 8) (.lit 0)), false), ((.lt (.var 9) (.len (.var 0))), false), ((.lt (.var 11) (.lit 1)), false), ((.lt (.lit 20) (.var 11)), false), ((.lt (.lit 100) (.len (.var 0))), false), ((.gb 0 (.app 45 (.var 0) (.var 0) (.lit 0) (.lit 255) (.lit 0) (.lit 0) (.var 0)) (.lit 0) (.lit 0)), true)]⟩,
  ⟨.exit 0, 0, ⟨[((nFa + 6), (nFa + 6))], [(4, (.var (nFa + 4)))], [], [], [((.len (.var (nFa + 9))), (.len (.gl 0 (.app 23 (.var 0) (.var 0) (.var 11) (.lit 0) (.lit 0) (.lit 0) .nil) (.lit 0) (.lit 0))))], [((.var (nFa + 9)), (.gl 0 (.app 23 (.var 0) (.var 0) (.var 11) (.lit 0) (.lit 0) (.lit 0) .nil) (.lit 0) (.lit 0)))], [], []⟩, [((.lt (.var (nFa + 4)) (.len (.var (nFa + 9)))), false), ((.lt (.var (nFa + 0)) (.lit 1)), true), ((.lt (.var (nFa + 0)) (.lit 0)), false), ((.lt (.lit 20) (.var (nFa + 0))), false), ((.lt (.lit 20) (.len (.var (nFa + 9)))), false), ((.lt (.var 8) (.lit 0)), false), ((.lt (.var 9) (.len (.var 0))), false), ((.lt (.var 11) (.lit 1)), false), ((.lt (.lit 20) (.var 11)), false), ((.lt (.lit 100) (.len (.var 0))), false), ((.gb 0 (.app 45 (.var 0) (.var 0) (.lit 0) (.lit 255) (.lit 0) (.lit 0) (.var 0)) (.lit 0) (.lit 0)), true)]⟩]
theorem oAa_ok : OOK Try.prog (oAa Try.prog) inM := pruned_ok pr (arInit_ok (true_ok awake6_calls (opLoadS_ok (opAppendW_ok (opSliceT_ok noOrac_ok)))))
theorem oneFa : (loopsAt Try.prog fAa 12).length = 1 := by kernel_rfl
theorem bFa : (codeX Try.prog (oAa Try.prog) LO7 SZ7 fAa 6000 0 (loopAt Try.prog fAa 12) (hdAt headsF 0).fr ([] ++ (hdAt headsF 0).pc) (hdAt headsF 0).hp).bind (fun ls => sumsHd Try.prog nFa LO7 SZ7 headsF tgF (ls.map withRows)) = some sumsFa := by kernel_rfl
theorem stFa : mAll nFa 0 0 Try.prog (hdAt entFa 0).fr (hdAt entFa 0).hp (hdAt headsF 0).fr (hdAt headsF 0).hp = some startFa := by kernel_rfl
theorem hFpc : (hdAt headsF 0).pc = [(.lt (.var nFa) (.lit 0), false), (.lt (.lit 20) (.var nFa), false), (.lt (.lit 20) (.len (.var (nFa + 9))), false)] ++ pcEFa := by kernel_rfl
theorem avFa : pav nFa (nFa + 64) pcEFa = true := by kernel_rfl
structure FA (ν : Env Gh) : Prop where
  n1 : 1 ≤ ν.i 11
  n2 : ν.i 11 ≤ 20
  len : (ν.l 0).length ≤ 100
  rng : ∀ x ∈ ν.l 0, 0 ≤ x ∧ x ≤ 255
theorem fA {ν : Env Gh} (hI : ν.I = inM) (h : pcDen ν pcEFa) : FA ν := by
  have h1 := lt_den (pcAt h 2 rfl)
  have h2 := lt_den (pcAt h 3 rfl)
  have h3 := lt_den (pcAt h 4 rfl)
  have h4 := pcAt h 5 rfl
  simp only [SI.den, SL.den, Bool.false_eq_true, iff_false] at h1 h2 h3
  exact ⟨by omega, by omega, by omega, (range_den hI (.var 0) 0 255).1 h4⟩
theorem FA.elem {ν : Env Gh} (F : FA ν) (i : Nat) : 0 ≤ (ν.l 0).getD i 0 ∧ (ν.l 0).getD i 0 ≤ 255 := by
  rw [List.getD_eq_getElem?_getD]
  cases h : (ν.l 0)[i]? with
  | none => simp
  | some x => exact F.rng x (List.mem_of_getElem? h)
theorem downX_den {ν : Env Gh} (hI : ν.I = inM) : downX.den ν = fG (ν.i 11) 0 := by simp [downX, SL.den, SG.den, SI.den, hI, inM, ghL]
attribute [local irreducible] nmAt
structure JF (ν : Env Gh) (x : Vals Gh) : Prop where
  i0 : 0 ≤ x.i 0
  i1 : x.i 0 ≤ ν.i 11
  list : x.l 9 = fG (ν.i 11) (x.i 0)
  cap : ((x.l 9).length : Int) ≤ x.i 4
def oFaL (P : Program) : Orac := (oAa P).withLoop fAa 12 nFa (hdAt entFa 0).fr (hdAt entFa 0).hp (mkM nFa tgF (pcEFa.map fun x => (x.1, !x.2)))
theorem oFaL_ok : OOK Try.prog (oFaL Try.prog) inM := by
  have hp : ∀ {ν : Env Gh} {x : Vals Gh}, ν.I = inM → pcDen ν pcEFa → JF ν x → pcDen (ν.at nFa x) (hdAt headsF 0).pc := by
    intro ν x hI h J
    have F := fA hI h
    have F2 := F.n2
    have rf : RF nFa ν x (ν.at nFa x) := RF.self rfl
    have r0 : (ν.at nFa x).i nFa = x.i 0 := rf.i 0 (by decide)
    have j0 := J.i0
    have j1 := J.i1
    have hl : (x.l 9).length = (ν.i 11 - x.i 0).toNat := by rw [J.list, fG_length]
    rw [hFpc]
    refine pcDen_append (pcDen_cons (lt_of ?_) (pcDen_cons (lt_of ?_) (pcDen_one (lt_of ?_)))) (pcDen_agree (at_agree (ρ := fun _ => 0) (ρ' := fun _ => 0) (fun _ _ => rfl)) avFa h)
    · simp only [SI.den, r0, Bool.false_eq_true, iff_false]; omega
    · simp only [SI.den, r0, Bool.false_eq_true, iff_false]; omega
    · simp only [SI.den, SL.den, rf.l 9 (by decide), Bool.false_eq_true, iff_false]; omega
  have h1 : ∀ {i : Nat} {h : Tgt} {ss : List (PC × List SumT)}, headsF[i]? = some h → [[(([] : PC), sumsFa)]][i]? = some ss → h = hdAt headsF 0 ∧ ss = [([], sumsFa)] := by
    intro i h ss hi hs
    have hlt : i < 1 := (List.getElem?_eq_some_iff.1 hs).1
    obtain rfl : i = 0 := by omega
    exact ⟨by unfold hdAt; rw [hi]; rfl, by cases hs; rfl⟩
  refine loopC_ok (n := 6000) (it := 0) pr oAa_ok (rfl : nFa = nmAt 12) (by decide +kernel) oneFa (heads := headsF) (sums := [[([], sumsFa)]]) (start := startFa) (h0 := hdAt headsF 0) (ghL []) rfl ?_ rfl stFa (fun _ => JF) (fun _ _ x => (x.i 0).toNat) ?_ ?_ ?_ oAa_ok
  · intro i h ss hi hs c hc
    obtain ⟨rfl, rfl⟩ := h1 hi hs
    simp only [List.mem_singleton] at hc
    subst hc
    exact bFa
  · intro ν hI h
    have hq := bads_of h
    have F := fA hI hq
    have F1 := F.n1
    generalize hy : Mt.vals startFa (ghL []) ν = y
    have y0 : y.i 0 = ν.i 11 := by rw [← hy]; simp only [startFa, Mt.vals, lkp_cons, lkp_nil, Nat.reduceEqDiff, reduceIte, SI.den]
    have y4 : y.i 4 = 0 := by rw [← hy]; simp only [startFa, Mt.vals, lkp_cons, lkp_nil, Nat.reduceEqDiff, reduceIte, SI.den]
    have y9 : y.l 9 = [] := by rw [← hy]; simp only [startFa, Mt.vals, lkp_cons, lkp_nil, Nat.reduceEqDiff, reduceIte, SL.den]
    have J : JF ν y := ⟨by omega, by omega, by rw [y9, y0, fG_self], by rw [y9]; simp [y4]⟩
    refine ⟨J, hp hI hq J, ?_⟩
    have rf : RF nFa ν y (ν.at nFa y) := RF.self rfl
    constructor <;> simp [startFa, SI.den, SL.den, rf.l 9 (by decide), y9]
  · intro i h ss hi hs ν x hI hb hJ hpc
    obtain ⟨rfl, rfl⟩ := h1 hi hs
    exact ⟨_, List.mem_singleton.2 rfl, pcDen_nil _⟩
  · intro i h ss hi hs c hc t ht ν x ν2 hI hb J hpc hq rf h2
    obtain ⟨rfl, rfl⟩ := h1 hi hs
    simp only [List.mem_singleton] at hc
    subst hc
    have hq := bads_of hb
    have F := fA hI hq
    have F2 := F.n2
    have j0 := J.i0
    have j1 := J.i1
    have hl : (x.l 9).length = (ν.i 11 - x.i 0).toNat := by rw [J.list, fG_length]
    have q0 : ν2.i (nFa + 0) = x.i 0 := rf.i 0 (by decide)
    have q4 : ν2.i (nFa + 4) = x.i 4 := rf.i 4 (by decide)
    have q9 : ν2.l (nFa + 9) = x.l 9 := rf.l 9 (by decide)
    simp only [sumsFa, List.mem_cons, List.not_mem_nil, or_false] at ht
    rcases ht with rfl | rfl
    · have c1 := lt_den (pcAt h2 0 rfl)
      have c2 := lt_den (pcAt h2 1 rfl)
      simp only [SI.den, SL.den, q0, q9, Bool.false_eq_true, iff_false] at c1 c2
      intro g hg
      have e : g = hdAt headsF 0 := by unfold hdAt; rw [hg]; rfl
      subst e
      generalize hy : Mt.vals _ (ghL []) ν2 = y
      have y0 : y.i 0 = x.i 0 - 1 := by rw [← hy]; simp only [Mt.vals, lkp_cons, lkp_nil, Nat.reduceEqDiff, reduceIte, SI.den, q0]
      have y9 : y.l 9 = x.l 9 ++ [x.i 0] := by rw [← hy]; simp only [Mt.vals, lkp_cons, lkp_nil, Nat.reduceEqDiff, reduceIte, SL.den, SI.den, q0, q9]
      have y4 : ((y.l 9).length : Int) ≤ y.i 4 := by
        rw [y9, ← hy]
        simp only [Mt.vals, lkp_cons, lkp_nil, Nat.reduceEqDiff, reduceIte, SI.den, List.length_append, List.length_cons, List.length_nil]
        omega
      have J' : JF ν y := ⟨by omega, by omega, by rw [y9, y0, J.list, fG_step j1], y4⟩
      refine ⟨J', hp hI hq J', by show (y.i 0).toNat < (x.i 0).toNat; omega, ?_⟩
      have rf3 : RF nFa ν y (ν.at nFa y) := RF.self rfl
      constructor
      · intro z hz
        simp only [List.mem_cons, List.not_mem_nil, or_false] at hz
        subst hz
        simp only [SI.den, SL.den, q9, rf3.l 9 (by decide), y9, List.length_append, List.length_cons, List.length_nil]
        omega
      · simp
      · simp
      · simp
    · have c1 := lt_den (pcAt h2 1 rfl)
      simp only [SI.den, q0, iff_true] at c1
      have e0 : x.i 0 = 0 := by omega
      generalize hy : Mt.vals _ (ghL []) ν2 = y
      have rf3 : RF nFa ν y (ν.at nFa y) := RF.self rfl
      have y4 : y.i 4 = x.i 4 := by rw [← hy]; simp only [Mt.vals, lkp_cons, lkp_nil, Nat.reduceEqDiff, reduceIte, SI.den, q4]
      have e : downX.den (ν.at nFa y) = x.l 9 := by
        rw [downX_den (rf3.I.trans hI), rf3.io 11 (by decide), J.list, e0]
      unfold downX at e
      refine ⟨fun g hg => ?_, ?_⟩
      · cases hg
        refine pcDen_one (lt_of ?_)
        simp only [SI.den, e, rf3.i 4 (by decide), y4, Bool.false_eq_true, iff_false]
        have := J.cap
        omega
      · constructor
        · intro z hz
          simp only [List.mem_cons, List.not_mem_nil, or_false] at hz
          subst hz
          simp only [SI.den]
          rw [e]
          simp only [SL.den, q9]
        · intro z hz
          simp only [List.mem_cons, List.not_mem_nil, or_false] at hz
          subst hz
          simp only
          rw [e]
          simp only [SL.den, q9]
        · simp
        · simp
end Go.Proofs.Ytoogepoalbhlhaa
end

section
namespace Go.Proofs.Ytoogepoalbhlhaa
open Go Go.Sy Go.RowKit

def eFn (P : Program) : Leaf := capN 0 (capAll P (oAa P) fAa 12 (argsAa .nilSl) pcA4 [])
def hFn (P : Program) : Leaf := let L := eFn P
  reachL { L with fr := keepFr ksFa ((L.fr.set 10 (.sl (nFa + 6) (.lit 0) (.len (.var (nFa + 9))) (.var (nFa + 4)))).set 12 (.int .i64 (.var nFa))), hp := hadd (nFa + 6) (.row .i64 (.var (nFa + 9)) (.var (nFa + 4)) 3) L.hp }
def pFn (P : Program) : PC := [(.lt (.var nFa) (.lit 0), false), (.lt (.lit 20) (.var nFa), false), (.lt (.lit 20) (.len (.var (nFa + 9))), false)] ++ (eFn P).pc
def xFn (P : Program) : Leaf := { hFn P with fr := ((hFn P).fr.set 10 (.sl (nFa + 6) (.lit 0) (.len downX) (.var (nFa + 4)))).set 12 .dead, hp := setList (nFa + 6) downX (hFn P).hp }
def gFn (P : Program) : List Tgt := [⟨.exit 0, (xFn P).fr, (xFn P).hp, [(.lt (.var (nFa + 4)) (.len downX), false)]⟩]
def bodyFn (P : Program) : Option (List Leaf) := codeX P (oAa P) LO7 SZ7 fAa 6000 0 (loopAt P fAa 12) (hFn P).fr (pFn P) (hFn P).hp
def headsFn (P : Program) : List Tgt := [⟨.normal, (hFn P).fr, (hFn P).hp, pFn P⟩]
def sumFn (P : Program) : Option (List SumT) := (bodyFn P).bind fun ls => sumsHd P nFa LO7 SZ7 (headsFn P) (gFn P) (ls.map withRows)
end Go.Proofs.Ytoogepoalbhlhaa
end

section
namespace Go.Proofs.Ytoogepoalbhlhaa
open Go Go.Sy Go.RowKit

def entn : List Tgt := [
  ⟨.normal, [(.int .i64 (.var 11)), .nilSl, (.tup []), (.tup []), (.bool (.lit false)), (.ptr 4149515568899892254717959488744183311062551547547731794544774035273380532025856936150436481870441350779126630908129548779228898142448907688728920084719212744523434601557597511221248 (.lit 0)), (.ptr 4149515568903666217142781070476971404650345924921356815830453617446253018313349803378710947556433989952369598715690876086613344600686813670939880847055850928817076003461963249090560 (.lit 0)), (.int .i64 (.lit 0)), (.ptr 4149515568907425437526880679551295875270284677455179624388286647548403793979210885150574301410132856134595778735552553411825466418795347845736657839622433148593270222257246592565248 (.lit 0)), (.int .i64 (.lit 0)), (.sl 4149515568918732582760623277213576696822328921151606112199821733974414874415364388023628537467965061539974474286715472932702789524409481154186122760439578029575508763838003476955136 (.lit 0) (.lit 0) (.lit 0)), (.sl 4149515568918747324801345236359483890394910906576961256423338985694838218971224722493012881799418522972494699516276181793542753445678620883032333404160798972678053422806923982405632 (.lit 0) (.lit 0) (.lit 0)), (.int .i64 (.var 11)), (.tup []), (.tup []), (.tup []), (.tup []), (.tup []), (.tup []), (.tup []), (.tup []), (.bool (.lit true)), (.bool (.lit false)), (.int .i64 (.var 11)), (.bool (.lit false)), (.bool (.lit false)), (.int .i64 (.var 11)), (.bool (.lit false)), (.bool (.lit false)), (.bool (.lit false)), .nilSl, (.int .i64 (.lit 0)), (.bool (.lit false)), (.bool (.lit false)), (.int .i64 (.var 11)), (.agg [(.int .i64 (.lit 0)), (.int .i64 (.var 11))]), (.tup [(.ptr 4149515568903666217142781070476971404650345924921356815830453617446253018313349803378710947556433989952369598715690876086613344600686813670939880847055850928817076003461963249090560 (.lit 0)), (.int .i64 (.lit 0))]), (.int .i64 (.var 11)), (.int .i64 (.add (.var 11) (.lit 1))), (.tup [(.ptr 4149515568903666217142781070476971404650345924921356815830453617446253018313349803378710947556433989952369598715690876086613344600686813670939880847055850928817076003461963249090560 (.lit 0)), (.int .i64 (.lit 0))]), (.ptr 4149515568903666217142781070476971404650345924921356815830453617446253018313349803378710947556433989952369598715690876086613344600686813670939880847055850928817076003461963249090560 (.lit 0)), (.int .i64 (.lit 0)), (.tup [(.ptr 4149515568907425437526880679551295875270284677455179624388286647548403793979210885150574301410132856134595778735552553411825466418795347845736657839622433148593270222257246592565248 (.lit 0)), (.int .i64 (.lit 0))]), (.ptr 4149515568903666217142781070476971404650345924921356815830453617446253018313349803378710947556433989952369598715690876086613344600686813670939880847055850928817076003461963249090560 (.lit 0)), (.tup [(.ptr 4149515568907425437526880679551295875270284677455179624388286647548403793979210885150574301410132856134595778735552553411825466418795347845736657839622433148593270222257246592565248 (.lit 0)), (.int .i64 (.lit 0))]), (.ptr 4149515568907425437526880679551295875270284677455179624388286647548403793979210885150574301410132856134595778735552553411825466418795347845736657839622433148593270222257246592565248 (.lit 0)), (.int .i64 (.lit 0)), (.agg [(.int .i64 (.lit 0)), (.int .i64 (.var 11))]), (.ptr 4149515568903666217142781070476971404650345924921356815830453617446253018313349803378710947556433989952369598715690876086613344600686813670939880847055850928817076003461963249090560 (.lit 0)), (.int .i64 (.lit 0)), (.bool (.lit false)), (.bool (.lit false)), (.int .i64 (.lit 0)), (.bool (.lit false)), (.bool (.lit false)), (.sl 4149515568918732582760623277213576696822328921151606112199821733974414874415364388023628537467965061539974474286715472932702789524409481154186122760439578029575508763838003476955136 (.lit 0) (.lit 0) (.lit 0)), (.sl 4149515568918747324801345236359483890394910906576961256423338985694838218971224722493012881799418522972494699516276181793542753445678620883032333404160798972678053422806923982405632 (.lit 0) (.lit 0) (.lit 0)), (.int .i64 (.var 11)), (.tup []), (.tup []), (.tup []), (.tup []), (.tup []), (.tup []), (.tup []), (.tup []), (.tup []), (.tup []), (.tup []), (.tup []), (.tup []), (.tup []), (.tup []), (.tup []), (.tup []), (.tup []), (.tup []), (.tup []), (.tup []), (.tup []), (.tup []), (.tup []), (.tup []), (.tup []), (.tup []), (.tup []), (.tup []), (.tup []), (.tup []), (.tup []), (.tup []), (.tup []), (.tup []), (.tup []), (.tup []), (.tup []), (.tup []), (.tup []), (.tup []), (.tup []), (.tup []), (.tup []), (.tup []), (.tup []), (.tup []), (.tup []), (.tup []), (.tup []), (.tup []), (.tup []), (.tup []), (.tup []), (.tup []), (.tup []), (.tup []), (.tup []), (.tup []), (.tup []), (.tup []), (.tup []), (.tup []), (.tup []), (.tup []), (.tup []), (.tup []), (.tup []), (.tup []), (.tup []), (.tup []), (.tup []), (.tup []), (.tup []), (.tup []), (.tup []), (.tup []), (.tup []), (.tup []), (.tup []), (.tup []), (.tup []), (.tup []), (.tup []), (.tup []), (.tup []), (.tup []), (.tup []), (.tup []), (.tup []), (.tup []), (.tup []), (.tup []), (.tup []), (.tup []), (.tup []), (.tup []), (.tup []), (.tup []), (.tup []), (.tup []), (.tup []), (.tup []), (.tup []), (.tup []), (.tup []), (.tup []), (.tup []), (.tup []), (.tup []), (.tup []), (.tup []), (.tup []), (.tup []), (.tup []), (.tup []), (.tup []), (.tup []), (.tup []), (.tup []), (.tup []), (.tup []), (.tup []), (.tup []), (.tup []), (.tup []), (.tup []), (.tup [])], [(4149515568899892254717959488744183311062551547547731794544774035273380532025856936150436481870441350779126630908129548779228898142448907688728920084719212744523434601557597511221248, (.cells [(.int .i64 (.lit 0)), (.int .i64 (.var 11))] 69 true)), (4149515568903666217142781070372222905197669385080934745531970444575320472839971730115245623777357708467420012959426233132184411571858439778857958574760898719348743425755450366230528, (.row .u64 (.gl 0 (.app 22 (.var 0) (.var 0) (.lit 0) (.var 11) (.lit 1) (.add (.var 11) (.lit 1)) (.rep (.add (.var 11) (.lit 1)) (.lit 0))) (.lit 0) (.lit 0)) (.nat (.add (.var 11) (.lit 1))) 51)), (4149515568903666217142781070476971404650345924921356815830453617446253018313349803378710947556433989952369598715690876086613344600686813670939880847055850928817076003461963249090560, (.cells [(.sl 4149515568903666217142781070372222905197669385080934745531970444575320472839971730115245623777357708467420012959426233132184411571858439778857958574760898719348743425755450366230528 (.lit 0) (.nat (.add (.var 11) (.lit 1))) (.nat (.add (.var 11) (.lit 1))))] 124 true)), (4149515568907425437526880679446547375817608137614757554089803474677471248505832811887108977631056574649646192979287910457396533389966973953654735567327480939124937644550733709705216, (.cells [.nilPtr] 75 true)), (4149515568907425437526880679551295875270284677455179624388286647548403793979210885150574301410132856134595778735552553411825466418795347845736657839622433148593270222257246592565248, (.cells [(.ptr 4149515568903666217142781070476971404650345924921356815830453617446253018313349803378710947556433989952369598715690876086613344600686813670939880847055850928817076003461963249090560 (.lit 0)), (.sl 4149515568907425437526880679446547375817608137614757554089803474677471248505832811887108977631056574649646192979287910457396533389966973953654735567327480939124937644550733709705216 (.lit 0) (.lit 1) (.lit 1)), (.int .i64 (.lit 0))] 134 true)), (4149515568918732582760623277213576696822328921151606112199821733974414874415364388023628537467965061539974474286715472932702789524409481154186122760439578029575508763838003476955136, (.cells [] 3 true)), (4149515568918747324801345236359483890394910906576961256423338985694838218971224722493012881799418522972494699516276181793542753445678620883032333404160798972678053422806923982405632, (.cells [] 3 true))], [((.lt (.var 11) (.lit 1)), false), ((.lt (.lit 20) (.var 11)), false)]⟩]
def headsn : List Tgt := [
  ⟨.normal, [.dead, .nilSl, .dead, .dead, .dead, (.ptr 4149515568899892254717959488744183311062551547547731794544774035273380532025856936150436481870441350779126630908129548779228898142448907688728920084719212744523434601557597511221248 (.lit 0)), (.ptr 4149515568903666217142781070476971404650345924921356815830453617446253018313349803378710947556433989952369598715690876086613344600686813670939880847055850928817076003461963249090560 (.lit 0)), .dead, (.ptr 4149515568907425437526880679551295875270284677455179624388286647548403793979210885150574301410132856134595778735552553411825466418795347845736657839622433148593270222257246592565248 (.lit 0)), .dead, (.sl (nFa + 6) (.lit 0) (.len (.var (nFa + 9))) (.var (nFa + 4))), (.sl 4149515568918747324801345236359483890394910906576961256423338985694838218971224722493012881799418522972494699516276181793542753445678620883032333404160798972678053422806923982405632 (.lit 0) (.lit 0) (.lit 0)), (.int .i64 (.var (nFa + 0))), .dead, .dead, .dead, .dead, .dead, .dead, .dead, .dead, .dead, .dead, .dead, .dead, .dead, .dead, .dead, .dead, .dead, .dead, .dead, .dead, .dead, .dead, .dead, .dead, .dead, .dead, .dead, .dead, .dead, .dead, .dead, .dead, .dead, .dead, .dead, .dead, .dead, .dead, .dead, .dead, .dead, .dead, .dead, .dead, .dead, .dead, .dead, .dead, .dead, .dead, .dead, .dead, .dead, .dead, .dead, .dead, .dead, .dead, .dead, .dead, .dead, .dead, .dead, .dead, .dead, .dead, .dead, .dead, .dead, .dead, .dead, .dead, .dead, .dead, .dead, .dead, .dead, .dead, .dead, .dead, .dead, .dead, .dead, .dead, .dead, .dead, .dead, .dead, .dead, .dead, .dead, .dead, .dead, .dead, .dead, .dead, .dead, .dead, .dead, .dead, .dead, .dead, .dead, .dead, .dead, .dead, .dead, .dead, .dead, .dead, .dead, .dead, .dead, .dead, .dead, .dead, .dead, .dead, .dead, .dead, .dead, .dead, .dead, .dead, .dead, .dead, .dead, .dead, .dead, .dead, .dead, .dead, .dead, .dead, .dead, .dead, .dead, .dead, .dead, .dead, .dead, .dead, .dead, .dead, .dead, .dead, .dead, .dead, .dead, .dead, .dead, .dead, .dead, .dead, .dead, .dead, .dead, .dead, .dead, .dead, .dead, .dead, .dead, .dead, .dead, .dead, .dead, .dead, .dead, .dead, .dead, .dead, .dead], [(4149515568899892254717959488744183311062551547547731794544774035273380532025856936150436481870441350779126630908129548779228898142448907688728920084719212744523434601557597511221248, (.cells [(.int .i64 (.lit 0)), (.int .i64 (.var 11))] 69 true)), (4149515568903666217142781070372222905197669385080934745531970444575320472839971730115245623777357708467420012959426233132184411571858439778857958574760898719348743425755450366230528, (.row .u64 (.gl 0 (.app 22 (.var 0) (.var 0) (.lit 0) (.var 11) (.lit 1) (.add (.var 11) (.lit 1)) (.rep (.add (.var 11) (.lit 1)) (.lit 0))) (.lit 0) (.lit 0)) (.nat (.add (.var 11) (.lit 1))) 51)), (4149515568903666217142781070476971404650345924921356815830453617446253018313349803378710947556433989952369598715690876086613344600686813670939880847055850928817076003461963249090560, (.cells [(.sl 4149515568903666217142781070372222905197669385080934745531970444575320472839971730115245623777357708467420012959426233132184411571858439778857958574760898719348743425755450366230528 (.lit 0) (.nat (.add (.var 11) (.lit 1))) (.nat (.add (.var 11) (.lit 1))))] 124 true)), (4149515568907425437526880679446547375817608137614757554089803474677471248505832811887108977631056574649646192979287910457396533389966973953654735567327480939124937644550733709705216, (.cells [.nilPtr] 75 true)), (4149515568907425437526880679551295875270284677455179624388286647548403793979210885150574301410132856134595778735552553411825466418795347845736657839622433148593270222257246592565248, (.cells [(.ptr 4149515568903666217142781070476971404650345924921356815830453617446253018313349803378710947556433989952369598715690876086613344600686813670939880847055850928817076003461963249090560 (.lit 0)), (.sl 4149515568907425437526880679446547375817608137614757554089803474677471248505832811887108977631056574649646192979287910457396533389966973953654735567327480939124937644550733709705216 (.lit 0) (.lit 1) (.lit 1)), (.int .i64 (.lit 0))] 134 true)), (4149515568918747324801345236359483890394910906576961256423338985694838218971224722493012881799418522972494699516276181793542753445678620883032333404160798972678053422806923982405632, (.cells [] 3 true)), ((nFa + 6), (.row .i64 (.var (nFa + 9)) (.var (nFa + 4)) 3))], [((.lt (.var (nFa + 0)) (.lit 0)), false), ((.lt (.lit 20) (.var (nFa + 0))), false), ((.lt (.lit 20) (.len (.var (nFa + 9)))), false), ((.lt (.var 11) (.lit 1)), false), ((.lt (.lit 20) (.var 11)), false)]⟩]
def tgn : List Tgt := [
  ⟨.exit 0, [.dead, .nilSl, .dead, .dead, .dead, (.ptr 4149515568899892254717959488744183311062551547547731794544774035273380532025856936150436481870441350779126630908129548779228898142448907688728920084719212744523434601557597511221248 (.lit 0)), (.ptr 4149515568903666217142781070476971404650345924921356815830453617446253018313349803378710947556433989952369598715690876086613344600686813670939880847055850928817076003461963249090560 (.lit 0)), .dead, (.ptr 4149515568907425437526880679551295875270284677455179624388286647548403793979210885150574301410132856134595778735552553411825466418795347845736657839622433148593270222257246592565248 (.lit 0)), .dead, (.sl (nFa + 6) (.lit 0) (.len (.gl 0 (.app 23 (.var 0) (.var 0) (.var 11) (.lit 0) (.lit 0) (.lit 0) .nil) (.lit 0) (.lit 0))) (.var (nFa + 4))), (.sl 4149515568918747324801345236359483890394910906576961256423338985694838218971224722493012881799418522972494699516276181793542753445678620883032333404160798972678053422806923982405632 (.lit 0) (.lit 0) (.lit 0)), .dead, .dead, .dead, .dead, .dead, .dead, .dead, .dead, .dead, .dead, .dead, .dead, .dead, .dead, .dead, .dead, .dead, .dead, .dead, .dead, .dead, .dead, .dead, .dead, .dead, .dead, .dead, .dead, .dead, .dead, .dead, .dead, .dead, .dead, .dead, .dead, .dead, .dead, .dead, .dead, .dead, .dead, .dead, .dead, .dead, .dead, .dead, .dead, .dead, .dead, .dead, .dead, .dead, .dead, .dead, .dead, .dead, .dead, .dead, .dead, .dead, .dead, .dead, .dead, .dead, .dead, .dead, .dead, .dead, .dead, .dead, .dead, .dead, .dead, .dead, .dead, .dead, .dead, .dead, .dead, .dead, .dead, .dead, .dead, .dead, .dead, .dead, .dead, .dead, .dead, .dead, .dead, .dead, .dead, .dead, .dead, .dead, .dead, .dead, .dead, .dead, .dead, .dead, .dead, .dead, .dead, .dead, .dead, .dead, .dead, .dead, .dead, .dead, .dead, .dead, .dead, .dead, .dead, .dead, .dead, .dead, .dead, .dead, .dead, .dead, .dead, .dead, .dead, .dead, .dead, .dead, .dead, .dead, .dead, .dead, .dead, .dead, .dead, .dead, .dead, .dead, .dead, .dead, .dead, .dead, .dead, .dead, .dead, .dead, .dead, .dead, .dead, .dead, .dead, .dead, .dead, .dead, .dead, .dead, .dead, .dead, .dead, .dead, .dead, .dead, .dead, .dead, .dead, .dead, .dead, .dead, .dead, .dead, .dead], [(4149515568899892254717959488744183311062551547547731794544774035273380532025856936150436481870441350779126630908129548779228898142448907688728920084719212744523434601557597511221248, (.cells [(.int .i64 (.lit 0)), (.int .i64 (.var 11))] 69 true)), (4149515568903666217142781070372222905197669385080934745531970444575320472839971730115245623777357708467420012959426233132184411571858439778857958574760898719348743425755450366230528, (.row .u64 (.gl 0 (.app 22 (.var 0) (.var 0) (.lit 0) (.var 11) (.lit 1) (.add (.var 11) (.lit 1)) (.rep (.add (.var 11) (.lit 1)) (.lit 0))) (.lit 0) (.lit 0)) (.nat (.add (.var 11) (.lit 1))) 51)), (4149515568903666217142781070476971404650345924921356815830453617446253018313349803378710947556433989952369598715690876086613344600686813670939880847055850928817076003461963249090560, (.cells [(.sl 4149515568903666217142781070372222905197669385080934745531970444575320472839971730115245623777357708467420012959426233132184411571858439778857958574760898719348743425755450366230528 (.lit 0) (.nat (.add (.var 11) (.lit 1))) (.nat (.add (.var 11) (.lit 1))))] 124 true)), (4149515568907425437526880679446547375817608137614757554089803474677471248505832811887108977631056574649646192979287910457396533389966973953654735567327480939124937644550733709705216, (.cells [.nilPtr] 75 true)), (4149515568907425437526880679551295875270284677455179624388286647548403793979210885150574301410132856134595778735552553411825466418795347845736657839622433148593270222257246592565248, (.cells [(.ptr 4149515568903666217142781070476971404650345924921356815830453617446253018313349803378710947556433989952369598715690876086613344600686813670939880847055850928817076003461963249090560 (.lit 0)), (.sl 4149515568907425437526880679446547375817608137614757554089803474677471248505832811887108977631056574649646192979287910457396533389966973953654735567327480939124937644550733709705216 (.lit 0) (.lit 1) (.lit 1)), (.int .i64 (.lit 0))] 134 true)), (4149515568918747324801345236359483890394910906576961256423338985694838218971224722493012881799418522972494699516276181793542753445678620883032333404160798972678053422806923982405632, (.cells [] 3 true)), ((nFa + 6), (.row .i64 (.gl 0 (.app 23 (.var 0) (.var 0) (.var 11) (.lit 0) (.lit 0) (.lit 0) .nil) (.lit 0) (.lit 0)) (.var (nFa + 4)) 3))], [((.lt (.var (nFa + 4)) (.len (.gl 0 (.app 23 (.var 0) (.var 0) (.var 11) (.lit 0) (.lit 0) (.lit 0) .nil) (.lit 0) (.lit 0)))), false)]⟩]
def startn : Mt := ⟨[((nFa + 6), 4149515568918732582760623277213576696822328921151606112199821733974414874415364388023628537467965061539974474286715472932702789524409481154186122760439578029575508763838003476955136)], [(0, (.var 11)), (4, (.lit 0))], [(9, .nil)], [], [((.lit 0), (.len (.var (nFa + 9))))], [], [], []⟩
def pcEn : PC := [((.lt (.var 11) (.lit 1)), false), ((.lt (.lit 20) (.var 11)), false)]
def sumsn : List SumT := [
  ⟨.normal, 0, ⟨[((nFa + 6), 5260135901548373507240989942417378047854826771559201887739061097795310694511565463251357902679074989379389053399174956006064672697247080962071537959657508479963375788689324718058814739838159232476151897573556224)], [(0, (.sub (.var (nFa + 0)) (.lit 1))), (4, (.var 5260135901548373507240989942417378047854826771559201887739061097795310694511565463251357902679074989379389053399174956006064672697247080962071537959657508479963375788689324718058814739838159232476151897573556224))], [(9, (.app (.var (nFa + 9)) (.cons (.var (nFa + 0)) .nil)))], [], [((.add (.len (.var (nFa + 9))) (.lit 1)), (.len (.var (nFa + 9))))], [], [], []⟩, [((.lt (.var 5260135901548373507240989942417378047854826771559201887739061097795310694511565463251357902679074989379389053399174956006064672697247080962071537959657508479963375788689324718058814739838159232476151897573556224) (.add (.len (.var (nFa + 9))) (.lit 1))), false), ((.lt (.var (nFa + 0)) (.lit 1)), false), ((.lt (.var (nFa + 0)) (.lit 0)), false), ((.lt (.lit 20) (.var (nFa + 0))), false), ((.lt (.lit 20) (.len (.var (nFa + 9)))), false), ((.lt (.var 11) (.lit 1)), false), ((.lt (.lit 20) (.var 11)), false)]⟩,
  ⟨.exit 0, 0, ⟨[((nFa + 6), (nFa + 6))], [(4, (.var (nFa + 4)))], [], [], [((.len (.var (nFa + 9))), (.len (.gl 0 (.app 23 (.var 0) (.var 0) (.var 11) (.lit 0) (.lit 0) (.lit 0) .nil) (.lit 0) (.lit 0))))], [((.var (nFa + 9)), (.gl 0 (.app 23 (.var 0) (.var 0) (.var 11) (.lit 0) (.lit 0) (.lit 0) .nil) (.lit 0) (.lit 0)))], [], []⟩, [((.lt (.var (nFa + 4)) (.len (.var (nFa + 9)))), false), ((.lt (.var (nFa + 0)) (.lit 1)), true), ((.lt (.var (nFa + 0)) (.lit 0)), false), ((.lt (.lit 20) (.var (nFa + 0))), false), ((.lt (.lit 20) (.len (.var (nFa + 9)))), false), ((.lt (.var 11) (.lit 1)), false), ((.lt (.lit 20) (.var 11)), false)]⟩]
theorem bFn : (codeX Try.prog (oAa Try.prog) LO7 SZ7 fAa 6000 0 (loopAt Try.prog fAa 12) (hdAt headsn 0).fr ([] ++ (hdAt headsn 0).pc) (hdAt headsn 0).hp).bind (fun ls => sumsHd Try.prog nFa LO7 SZ7 headsn tgn (ls.map withRows)) = some sumsn := by kernel_rfl
theorem stFn : mAll nFa 0 0 Try.prog (hdAt entn 0).fr (hdAt entn 0).hp (hdAt headsn 0).fr (hdAt headsn 0).hp = some startn := by kernel_rfl
theorem hFnpc : (hdAt headsn 0).pc = [(.lt (.var nFa) (.lit 0), false), (.lt (.lit 20) (.var nFa), false), (.lt (.lit 20) (.len (.var (nFa + 9))), false)] ++ pcEn := by kernel_rfl
theorem avFn : pav nFa (nFa + 64) pcEn = true := by kernel_rfl
structure FnA (ν : Env Gh) : Prop where
  n1 : 1 ≤ ν.i 11
  n2 : ν.i 11 ≤ 20
theorem fnA {ν : Env Gh} (hI : ν.I = inM) (h : pcDen ν pcEn) : FnA ν := by
  have h1 := lt_den (pcAt h 0 rfl)
  have h2 := lt_den (pcAt h 1 rfl)
  simp only [SI.den, Bool.false_eq_true, iff_false] at h1 h2
  exact ⟨by omega, by omega⟩
attribute [local irreducible] nmAt
def oFnL (P : Program) : Orac := (oAa P).withLoop fAa 12 nFa (hdAt entn 0).fr (hdAt entn 0).hp (mkM nFa tgn (pcEn.map fun x => (x.1, !x.2)))
theorem oFnL_ok : OOK Try.prog (oFnL Try.prog) inM := by
  have hp : ∀ {ν : Env Gh} {x : Vals Gh}, ν.I = inM → pcDen ν pcEn → JF ν x → pcDen (ν.at nFa x) (hdAt headsn 0).pc := by
    intro ν x hI h J
    have F := fnA hI h
    have F2 := F.n2
    have rf : RF nFa ν x (ν.at nFa x) := RF.self rfl
    have r0 : (ν.at nFa x).i nFa = x.i 0 := rf.i 0 (by decide)
    have j0 := J.i0
    have j1 := J.i1
    have hl : (x.l 9).length = (ν.i 11 - x.i 0).toNat := by rw [J.list, fG_length]
    rw [hFnpc]
    refine pcDen_append (pcDen_cons (lt_of ?_) (pcDen_cons (lt_of ?_) (pcDen_one (lt_of ?_)))) (pcDen_agree (at_agree (ρ := fun _ => 0) (ρ' := fun _ => 0) (fun _ _ => rfl)) avFn h)
    · simp only [SI.den, r0, Bool.false_eq_true, iff_false]; omega
    · simp only [SI.den, r0, Bool.false_eq_true, iff_false]; omega
    · simp only [SI.den, SL.den, rf.l 9 (by decide), Bool.false_eq_true, iff_false]; omega
  have h1 : ∀ {i : Nat} {h : Tgt} {ss : List (PC × List SumT)}, headsn[i]? = some h → [[(([] : PC), sumsn)]][i]? = some ss → h = hdAt headsn 0 ∧ ss = [([], sumsn)] := by
    intro i h ss hi hs
    have hlt : i < 1 := (List.getElem?_eq_some_iff.1 hs).1
    obtain rfl : i = 0 := by omega
    exact ⟨by unfold hdAt; rw [hi]; rfl, by cases hs; rfl⟩
  refine loopC_ok (n := 6000) (it := 0) pr oAa_ok (rfl : nFa = nmAt 12) (by decide +kernel) oneFa (heads := headsn) (sums := [[([], sumsn)]]) (start := startn) (h0 := hdAt headsn 0) (ghL []) rfl ?_ rfl stFn (fun _ => JF) (fun _ _ x => (x.i 0).toNat) ?_ ?_ ?_ oAa_ok
  · intro i h ss hi hs c hc
    obtain ⟨rfl, rfl⟩ := h1 hi hs
    simp only [List.mem_singleton] at hc
    subst hc
    exact bFn
  · intro ν hI h
    have hq := bads_of h
    have F := fnA hI hq
    have F1 := F.n1
    generalize hy : Mt.vals startn (ghL []) ν = y
    have y0 : y.i 0 = ν.i 11 := by rw [← hy]; simp only [startn, Mt.vals, lkp_cons, lkp_nil, Nat.reduceEqDiff, reduceIte, SI.den]
    have y4 : y.i 4 = 0 := by rw [← hy]; simp only [startn, Mt.vals, lkp_cons, lkp_nil, Nat.reduceEqDiff, reduceIte, SI.den]
    have y9 : y.l 9 = [] := by rw [← hy]; simp only [startn, Mt.vals, lkp_cons, lkp_nil, Nat.reduceEqDiff, reduceIte, SL.den]
    have J : JF ν y := ⟨by omega, by omega, by rw [y9, y0, fG_self], by rw [y9]; simp [y4]⟩
    refine ⟨J, hp hI hq J, ?_⟩
    have rf : RF nFa ν y (ν.at nFa y) := RF.self rfl
    constructor <;> simp [startn, SI.den, SL.den, rf.l 9 (by decide), y9]
  · intro i h ss hi hs ν x hI hb hJ hpc
    obtain ⟨rfl, rfl⟩ := h1 hi hs
    exact ⟨_, List.mem_singleton.2 rfl, pcDen_nil _⟩
  · intro i h ss hi hs c hc t ht ν x ν2 hI hb J hpc hq rf h2
    obtain ⟨rfl, rfl⟩ := h1 hi hs
    simp only [List.mem_singleton] at hc
    subst hc
    have hq := bads_of hb
    have F := fnA hI hq
    have F2 := F.n2
    have j0 := J.i0
    have j1 := J.i1
    have hl : (x.l 9).length = (ν.i 11 - x.i 0).toNat := by rw [J.list, fG_length]
    have q0 : ν2.i (nFa + 0) = x.i 0 := rf.i 0 (by decide)
    have q4 : ν2.i (nFa + 4) = x.i 4 := rf.i 4 (by decide)
    have q9 : ν2.l (nFa + 9) = x.l 9 := rf.l 9 (by decide)
    simp only [sumsn, List.mem_cons, List.not_mem_nil, or_false] at ht
    rcases ht with rfl | rfl
    · have c1 := lt_den (pcAt h2 0 rfl)
      have c2 := lt_den (pcAt h2 1 rfl)
      simp only [SI.den, SL.den, q0, q9, Bool.false_eq_true, iff_false] at c1 c2
      intro g hg
      have e : g = hdAt headsn 0 := by unfold hdAt; rw [hg]; rfl
      subst e
      generalize hy : Mt.vals _ (ghL []) ν2 = y
      have y0 : y.i 0 = x.i 0 - 1 := by rw [← hy]; simp only [Mt.vals, lkp_cons, lkp_nil, Nat.reduceEqDiff, reduceIte, SI.den, q0]
      have y9 : y.l 9 = x.l 9 ++ [x.i 0] := by rw [← hy]; simp only [Mt.vals, lkp_cons, lkp_nil, Nat.reduceEqDiff, reduceIte, SL.den, SI.den, q0, q9]
      have y4 : ((y.l 9).length : Int) ≤ y.i 4 := by
        rw [y9, ← hy]
        simp only [Mt.vals, lkp_cons, lkp_nil, Nat.reduceEqDiff, reduceIte, SI.den, List.length_append, List.length_cons, List.length_nil]
        omega
      have J' : JF ν y := ⟨by omega, by omega, by rw [y9, y0, J.list, fG_step j1], y4⟩
      refine ⟨J', hp hI hq J', by show (y.i 0).toNat < (x.i 0).toNat; omega, ?_⟩
      have rf3 : RF nFa ν y (ν.at nFa y) := RF.self rfl
      constructor
      · intro z hz
        simp only [List.mem_cons, List.not_mem_nil, or_false] at hz
        subst hz
        simp only [SI.den, SL.den, q9, rf3.l 9 (by decide), y9, List.length_append, List.length_cons, List.length_nil]
        omega
      · simp
      · simp
      · simp
    · have c1 := lt_den (pcAt h2 1 rfl)
      simp only [SI.den, q0, iff_true] at c1
      have e0 : x.i 0 = 0 := by omega
      generalize hy : Mt.vals _ (ghL []) ν2 = y
      have rf3 : RF nFa ν y (ν.at nFa y) := RF.self rfl
      have y4 : y.i 4 = x.i 4 := by rw [← hy]; simp only [Mt.vals, lkp_cons, lkp_nil, Nat.reduceEqDiff, reduceIte, SI.den, q4]
      have e : downX.den (ν.at nFa y) = x.l 9 := by
        rw [downX_den (rf3.I.trans hI), rf3.io 11 (by decide), J.list, e0]
      unfold downX at e
      refine ⟨fun g hg => ?_, ?_⟩
      · cases hg
        refine pcDen_one (lt_of ?_)
        simp only [SI.den, e, rf3.i 4 (by decide), y4, Bool.false_eq_true, iff_false]
        have := J.cap
        omega
      · constructor
        · intro z hz
          simp only [List.mem_cons, List.not_mem_nil, or_false] at hz
          subst hz
          simp only [SI.den]
          rw [e]
          simp only [SL.den, q9]
        · intro z hz
          simp only [List.mem_cons, List.not_mem_nil, or_false] at hz
          subst hz
          simp only
          rw [e]
          simp only [SL.den, q9]
        · simp
        · simp
end Go.Proofs.Ytoogepoalbhlhaa
end

section
namespace Go.Proofs.Ytoogepoalbhlhaa
open Go Go.Sy Go.RowKit

def eFe (P : Program) : Leaf := capN 0 (capAll P (oAa P) fAa 12 (argsAa (.emp 0)) pcA4 [])
def hFe (P : Program) : Leaf := let L := eFe P
  reachL { L with fr := keepFr ksFa ((L.fr.set 10 (.sl (nFa + 6) (.lit 0) (.len (.var (nFa + 9))) (.var (nFa + 4)))).set 12 (.int .i64 (.var nFa))), hp := hadd (nFa + 6) (.row .i64 (.var (nFa + 9)) (.var (nFa + 4)) 3) L.hp }
def pFe (P : Program) : PC := [(.lt (.var nFa) (.lit 0), false), (.lt (.lit 20) (.var nFa), false), (.lt (.lit 20) (.len (.var (nFa + 9))), false)] ++ (eFe P).pc
def xFe (P : Program) : Leaf := { hFe P with fr := ((hFe P).fr.set 10 (.sl (nFa + 6) (.lit 0) (.len downX) (.var (nFa + 4)))).set 12 .dead, hp := setList (nFa + 6) downX (hFe P).hp }
def gFe (P : Program) : List Tgt := [⟨.exit 0, (xFe P).fr, (xFe P).hp, [(.lt (.var (nFa + 4)) (.len downX), false)]⟩]
def bodyFe (P : Program) : Option (List Leaf) := codeX P (oAa P) LO7 SZ7 fAa 6000 0 (loopAt P fAa 12) (hFe P).fr (pFe P) (hFe P).hp
def headsFe (P : Program) : List Tgt := [⟨.normal, (hFe P).fr, (hFe P).hp, pFe P⟩]
def sumFe (P : Program) : Option (List SumT) := (bodyFe P).bind fun ls => sumsHd P nFa LO7 SZ7 (headsFe P) (gFe P) (ls.map withRows)
end Go.Proofs.Ytoogepoalbhlhaa
end

section
namespace Go.Proofs.Ytoogepoalbhlhaa
open Go Go.Sy Go.RowKit

def ente : List Tgt := [
  ⟨.normal, [(.int .i64 (.var 11)), (.emp 0), (.tup []), (.tup []), (.bool (.lit false)), (.ptr 4149515568899892254717959488744183311062551547547731794544774035273380532025856936150436481870441350779126630908129548779228898142448907688728920084719212744523434601557597511221248 (.lit 0)), (.ptr 4149515568903666217142781070476971404650345924921356815830453617446253018313349803378710947556433989952369598715690876086613344600686813670939880847055850928817076003461963249090560 (.lit 0)), (.int .i64 (.lit 0)), (.ptr 4149515568907425437526880679551295875270284677455179624388286647548403793979210885150574301410132856134595778735552553411825466418795347845736657839622433148593270222257246592565248 (.lit 0)), (.int .i64 (.lit 0)), (.sl 4149515568918732582760623277213576696822328921151606112199821733974414874415364388023628537467965061539974474286715472932702789524409481154186122760439578029575508763838003476955136 (.lit 0) (.lit 0) (.lit 0)), (.sl 4149515568918747324801345236359483890394910906576961256423338985694838218971224722493012881799418522972494699516276181793542753445678620883032333404160798972678053422806923982405632 (.lit 0) (.lit 0) (.lit 0)), (.int .i64 (.var 11)), (.tup []), (.tup []), (.tup []), (.tup []), (.tup []), (.tup []), (.tup []), (.tup []), (.bool (.lit true)), (.bool (.lit false)), (.int .i64 (.var 11)), (.bool (.lit false)), (.bool (.lit false)), (.int .i64 (.var 11)), (.bool (.lit false)), (.bool (.lit false)), (.bool (.lit false)), (.emp 0), (.int .i64 (.lit 0)), (.bool (.lit false)), (.bool (.lit false)), (.int .i64 (.var 11)), (.agg [(.int .i64 (.lit 0)), (.int .i64 (.var 11))]), (.tup [(.ptr 4149515568903666217142781070476971404650345924921356815830453617446253018313349803378710947556433989952369598715690876086613344600686813670939880847055850928817076003461963249090560 (.lit 0)), (.int .i64 (.lit 0))]), (.int .i64 (.var 11)), (.int .i64 (.add (.var 11) (.lit 1))), (.tup [(.ptr 4149515568903666217142781070476971404650345924921356815830453617446253018313349803378710947556433989952369598715690876086613344600686813670939880847055850928817076003461963249090560 (.lit 0)), (.int .i64 (.lit 0))]), (.ptr 4149515568903666217142781070476971404650345924921356815830453617446253018313349803378710947556433989952369598715690876086613344600686813670939880847055850928817076003461963249090560 (.lit 0)), (.int .i64 (.lit 0)), (.tup [(.ptr 4149515568907425437526880679551295875270284677455179624388286647548403793979210885150574301410132856134595778735552553411825466418795347845736657839622433148593270222257246592565248 (.lit 0)), (.int .i64 (.lit 0))]), (.ptr 4149515568903666217142781070476971404650345924921356815830453617446253018313349803378710947556433989952369598715690876086613344600686813670939880847055850928817076003461963249090560 (.lit 0)), (.tup [(.ptr 4149515568907425437526880679551295875270284677455179624388286647548403793979210885150574301410132856134595778735552553411825466418795347845736657839622433148593270222257246592565248 (.lit 0)), (.int .i64 (.lit 0))]), (.ptr 4149515568907425437526880679551295875270284677455179624388286647548403793979210885150574301410132856134595778735552553411825466418795347845736657839622433148593270222257246592565248 (.lit 0)), (.int .i64 (.lit 0)), (.agg [(.int .i64 (.lit 0)), (.int .i64 (.var 11))]), (.ptr 4149515568903666217142781070476971404650345924921356815830453617446253018313349803378710947556433989952369598715690876086613344600686813670939880847055850928817076003461963249090560 (.lit 0)), (.int .i64 (.lit 0)), (.bool (.lit false)), (.bool (.lit false)), (.int .i64 (.lit 0)), (.bool (.lit false)), (.bool (.lit false)), (.sl 4149515568918732582760623277213576696822328921151606112199821733974414874415364388023628537467965061539974474286715472932702789524409481154186122760439578029575508763838003476955136 (.lit 0) (.lit 0) (.lit 0)), (.sl 4149515568918747324801345236359483890394910906576961256423338985694838218971224722493012881799418522972494699516276181793542753445678620883032333404160798972678053422806923982405632 (.lit 0) (.lit 0) (.lit 0)), (.int .i64 (.var 11)), (.tup []), (.tup []), (.tup []), (.tup []), (.tup []), (.tup []), (.tup []), (.tup []), (.tup []), (.tup []), (.tup []), (.tup []), (.tup []), (.tup []), (.tup []), (.tup []), (.tup []), (.tup []), (.tup []), (.tup []), (.tup []), (.tup []), (.tup []), (.tup []), (.tup []), (.tup []), (.tup []), (.tup []), (.tup []), (.tup []), (.tup []), (.tup []), (.tup []), (.tup []), (.tup []), (.tup []), (.tup []), (.tup []), (.tup []), (.tup []), (.tup []), (.tup []), (.tup []), (.tup []), (.tup []), (.tup []), (.tup []), (.tup []), (.tup []), (.tup []), (.tup []), (.tup []), (.tup []), (.tup []), (.tup []), (.tup []), (.tup []), (.tup []), (.tup []), (.tup []), (.tup []), (.tup []), (.tup []), (.tup []), (.tup []), (.tup []), (.tup []), (.tup []), (.tup []), (.tup []), (.tup []), (.tup []), (.tup []), (.tup []), (.tup []), (.tup []), (.tup []), (.tup []), (.tup []), (.tup []), (.tup []), (.tup []), (.tup []), (.tup []), (.tup []), (.tup []), (.tup []), (.tup []), (.tup []), (.tup []), (.tup []), (.tup []), (.tup []), (.tup []), (.tup []), (.tup []), (.tup []), (.tup []), (.tup []), (.tup []), (.tup []), (.tup []), (.tup []), (.tup []), (.tup []), (.tup []), (.tup []), (.tup []), (.tup []), (.tup []), (.tup []), (.tup []), (.tup []), (.tup []), (.tup []), (.tup []), (.tup []), (.tup []), (.tup []), (.tup []), (.tup []), (.tup []), (.tup []), (.tup []), (.tup []), (.tup []), (.tup []), (.tup [])], [(4149515568899892254717959488744183311062551547547731794544774035273380532025856936150436481870441350779126630908129548779228898142448907688728920084719212744523434601557597511221248, (.cells [(.int .i64 (.lit 0)), (.int .i64 (.var 11))] 69 true)), (4149515568903666217142781070372222905197669385080934745531970444575320472839971730115245623777357708467420012959426233132184411571858439778857958574760898719348743425755450366230528, (.row .u64 (.gl 0 (.app 22 (.var 0) (.var 0) (.lit 0) (.var 11) (.lit 1) (.add (.var 11) (.lit 1)) (.rep (.add (.var 11) (.lit 1)) (.lit 0))) (.lit 0) (.lit 0)) (.nat (.add (.var 11) (.lit 1))) 51)), (4149515568903666217142781070476971404650345924921356815830453617446253018313349803378710947556433989952369598715690876086613344600686813670939880847055850928817076003461963249090560, (.cells [(.sl 4149515568903666217142781070372222905197669385080934745531970444575320472839971730115245623777357708467420012959426233132184411571858439778857958574760898719348743425755450366230528 (.lit 0) (.nat (.add (.var 11) (.lit 1))) (.nat (.add (.var 11) (.lit 1))))] 124 true)), (4149515568907425437526880679446547375817608137614757554089803474677471248505832811887108977631056574649646192979287910457396533389966973953654735567327480939124937644550733709705216, (.cells [.nilPtr] 75 true)), (4149515568907425437526880679551295875270284677455179624388286647548403793979210885150574301410132856134595778735552553411825466418795347845736657839622433148593270222257246592565248, (.cells [(.ptr 4149515568903666217142781070476971404650345924921356815830453617446253018313349803378710947556433989952369598715690876086613344600686813670939880847055850928817076003461963249090560 (.lit 0)), (.sl 4149515568907425437526880679446547375817608137614757554089803474677471248505832811887108977631056574649646192979287910457396533389966973953654735567327480939124937644550733709705216 (.lit 0) (.lit 1) (.lit 1)), (.int .i64 (.lit 0))] 134 true)), (4149515568918732582760623277213576696822328921151606112199821733974414874415364388023628537467965061539974474286715472932702789524409481154186122760439578029575508763838003476955136, (.cells [] 3 true)), (4149515568918747324801345236359483890394910906576961256423338985694838218971224722493012881799418522972494699516276181793542753445678620883032333404160798972678053422806923982405632, (.cells [] 3 true))], [((.lt (.var 11) (.lit 1)), false), ((.lt (.lit 20) (.var 11)), false)]⟩]
def headse : List Tgt := [
  ⟨.normal, [.dead, (.emp 0), .dead, .dead, .dead, (.ptr 4149515568899892254717959488744183311062551547547731794544774035273380532025856936150436481870441350779126630908129548779228898142448907688728920084719212744523434601557597511221248 (.lit 0)), (.ptr 4149515568903666217142781070476971404650345924921356815830453617446253018313349803378710947556433989952369598715690876086613344600686813670939880847055850928817076003461963249090560 (.lit 0)), .dead, (.ptr 4149515568907425437526880679551295875270284677455179624388286647548403793979210885150574301410132856134595778735552553411825466418795347845736657839622433148593270222257246592565248 (.lit 0)), .dead, (.sl (nFa + 6) (.lit 0) (.len (.var (nFa + 9))) (.var (nFa + 4))), (.sl 4149515568918747324801345236359483890394910906576961256423338985694838218971224722493012881799418522972494699516276181793542753445678620883032333404160798972678053422806923982405632 (.lit 0) (.lit 0) (.lit 0)), (.int .i64 (.var (nFa + 0))), .dead, .dead, .dead, .dead, .dead, .dead, .dead, .dead, .dead, .dead, .dead, .dead, .dead, .dead, .dead, .dead, .dead, .dead, .dead, .dead, .dead, .dead, .dead, .dead, .dead, .dead, .dead, .dead, .dead, .dead, .dead, .dead, .dead, .dead, .dead, .dead, .dead, .dead, .dead, .dead, .dead, .dead, .dead, .dead, .dead, .dead, .dead, .dead, .dead, .dead, .dead, .dead, .dead, .dead, .dead, .dead, .dead, .dead, .dead, .dead, .dead, .dead, .dead, .dead, .dead, .dead, .dead, .dead, .dead, .dead, .dead, .dead, .dead, .dead, .dead, .dead, .dead, .dead, .dead, .dead, .dead, .dead, .dead, .dead, .dead, .dead, .dead, .dead, .dead, .dead, .dead, .dead, .dead, .dead, .dead, .dead, .dead, .dead, .dead, .dead, .dead, .dead, .dead, .dead, .dead, .dead, .dead, .dead, .dead, .dead, .dead, .dead, .dead, .dead, .dead, .dead, .dead, .dead, .dead, .dead, .dead, .dead, .dead, .dead, .dead, .dead, .dead, .dead, .dead, .dead, .dead, .dead, .dead, .dead, .dead, .dead, .dead, .dead, .dead, .dead, .dead, .dead, .dead, .dead, .dead, .dead, .dead, .dead, .dead, .dead, .dead, .dead, .dead, .dead, .dead, .dead, .dead, .dead, .dead, .dead, .dead, .dead, .dead, .dead, .dead, .dead, .dead, .dead, .dead, .dead, .dead, .dead, .dead], [(4149515568899892254717959488744183311062551547547731794544774035273380532025856936150436481870441350779126630908129548779228898142448907688728920084719212744523434601557597511221248, (.cells [(.int .i64 (.lit 0)), (.int .i64 (.var 11))] 69 true)), (4149515568903666217142781070372222905197669385080934745531970444575320472839971730115245623777357708467420012959426233132184411571858439778857958574760898719348743425755450366230528, (.row .u64 (.gl 0 (.app 22 (.var 0) (.var 0) (.lit 0) (.var 11) (.lit 1) (.add (.var 11) (.lit 1)) (.rep (.add (.var 11) (.lit 1)) (.lit 0))) (.lit 0) (.lit 0)) (.nat (.add (.var 11) (.lit 1))) 51)), (4149515568903666217142781070476971404650345924921356815830453617446253018313349803378710947556433989952369598715690876086613344600686813670939880847055850928817076003461963249090560, (.cells [(.sl 4149515568903666217142781070372222905197669385080934745531970444575320472839971730115245623777357708467420012959426233132184411571858439778857958574760898719348743425755450366230528 (.lit 0) (.nat (.add (.var 11) (.lit 1))) (.nat (.add (.var 11) (.lit 1))))] 124 true)), (4149515568907425437526880679446547375817608137614757554089803474677471248505832811887108977631056574649646192979287910457396533389966973953654735567327480939124937644550733709705216, (.cells [.nilPtr] 75 true)), (4149515568907425437526880679551295875270284677455179624388286647548403793979210885150574301410132856134595778735552553411825466418795347845736657839622433148593270222257246592565248, (.cells [(.ptr 4149515568903666217142781070476971404650345924921356815830453617446253018313349803378710947556433989952369598715690876086613344600686813670939880847055850928817076003461963249090560 (.lit 0)), (.sl 4149515568907425437526880679446547375817608137614757554089803474677471248505832811887108977631056574649646192979287910457396533389966973953654735567327480939124937644550733709705216 (.lit 0) (.lit 1) (.lit 1)), (.int .i64 (.lit 0))] 134 true)), (4149515568918747324801345236359483890394910906576961256423338985694838218971224722493012881799418522972494699516276181793542753445678620883032333404160798972678053422806923982405632, (.cells [] 3 true)), ((nFa + 6), (.row .i64 (.var (nFa + 9)) (.var (nFa + 4)) 3))], [((.lt (.var (nFa + 0)) (.lit 0)), false), ((.lt (.lit 20) (.var (nFa + 0))), false), ((.lt (.lit 20) (.len (.var (nFa + 9)))), false), ((.lt (.var 11) (.lit 1)), false), ((.lt (.lit 20) (.var 11)), false)]⟩]
def tge : List Tgt := [
  ⟨.exit 0, [.dead, (.emp 0), .dead, .dead, .dead, (.ptr 4149515568899892254717959488744183311062551547547731794544774035273380532025856936150436481870441350779126630908129548779228898142448907688728920084719212744523434601557597511221248 (.lit 0)), (.ptr 4149515568903666217142781070476971404650345924921356815830453617446253018313349803378710947556433989952369598715690876086613344600686813670939880847055850928817076003461963249090560 (.lit 0)), .dead, (.ptr 4149515568907425437526880679551295875270284677455179624388286647548403793979210885150574301410132856134595778735552553411825466418795347845736657839622433148593270222257246592565248 (.lit 0)), .dead, (.sl (nFa + 6) (.lit 0) (.len (.gl 0 (.app 23 (.var 0) (.var 0) (.var 11) (.lit 0) (.lit 0) (.lit 0) .nil) (.lit 0) (.lit 0))) (.var (nFa + 4))), (.sl 4149515568918747324801345236359483890394910906576961256423338985694838218971224722493012881799418522972494699516276181793542753445678620883032333404160798972678053422806923982405632 (.lit 0) (.lit 0) (.lit 0)), .dead, .dead, .dead, .dead, .dead, .dead, .dead, .dead, .dead, .dead, .dead, .dead, .dead, .dead, .dead, .dead, .dead, .dead, .dead, .dead, .dead, .dead, .dead, .dead, .dead, .dead, .dead, .dead, .dead, .dead, .dead, .dead, .dead, .dead, .dead, .dead, .dead, .dead, .dead, .dead, .dead, .dead, .dead, .dead, .dead, .dead, .dead, .dead, .dead, .dead, .dead, .dead, .dead, .dead, .dead, .dead, .dead, .dead, .dead, .dead, .dead, .dead, .dead, .dead, .dead, .dead, .dead, .dead, .dead, .dead, .dead, .dead, .dead, .dead, .dead, .dead, .dead, .dead, .dead, .dead, .dead, .dead, .dead, .dead, .dead, .dead, .dead, .dead, .dead, .dead, .dead, .dead, .dead, .dead, .dead, .dead, .dead, .dead, .dead, .dead, .dead, .dead, .dead, .dead, .dead, .dead, .dead, .dead, .dead, .dead, .dead, .dead, .dead, .dead, .dead, .dead, .dead, .dead, .dead, .dead, .dead, .dead, .dead, .dead, .dead, .dead, .dead, .dead, .dead, .dead, .dead, .dead, .dead, .dead, .dead, .dead, .dead, .dead, .dead, .dead, .dead, .dead, .dead, .dead, .dead, .dead, .dead, .dead, .dead, .dead, .dead, .dead, .dead, .dead, .dead, .dead, .dead, .dead, .dead, .dead, .dead, .dead, .dead, .dead, .dead, .dead, .dead, .dead, .dead, .dead, .dead, .dead, .dead, .dead], [(4149515568899892254717959488744183311062551547547731794544774035273380532025856936150436481870441350779126630908129548779228898142448907688728920084719212744523434601557597511221248, (.cells [(.int .i64 (.lit 0)), (.int .i64 (.var 11))] 69 true)), (4149515568903666217142781070372222905197669385080934745531970444575320472839971730115245623777357708467420012959426233132184411571858439778857958574760898719348743425755450366230528, (.row .u64 (.gl 0 (.app 22 (.var 0) (.var 0) (.lit 0) (.var 11) (.lit 1) (.add (.var 11) (.lit 1)) (.rep (.add (.var 11) (.lit 1)) (.lit 0))) (.lit 0) (.lit 0)) (.nat (.add (.var 11) (.lit 1))) 51)), (4149515568903666217142781070476971404650345924921356815830453617446253018313349803378710947556433989952369598715690876086613344600686813670939880847055850928817076003461963249090560, (.cells [(.sl 4149515568903666217142781070372222905197669385080934745531970444575320472839971730115245623777357708467420012959426233132184411571858439778857958574760898719348743425755450366230528 (.lit 0) (.nat (.add (.var 11) (.lit 1))) (.nat (.add (.var 11) (.lit 1))))] 124 true)), (4149515568907425437526880679446547375817608137614757554089803474677471248505832811887108977631056574649646192979287910457396533389966973953654735567327480939124937644550733709705216, (.cells [.nilPtr] 75 true)), (4149515568907425437526880679551295875270284677455179624388286647548403793979210885150574301410132856134595778735552553411825466418795347845736657839622433148593270222257246592565248, (.cells [(.ptr 4149515568903666217142781070476971404650345924921356815830453617446253018313349803378710947556433989952369598715690876086613344600686813670939880847055850928817076003461963249090560 (.lit 0)), (.sl 4149515568907425437526880679446547375817608137614757554089803474677471248505832811887108977631056574649646192979287910457396533389966973953654735567327480939124937644550733709705216 (.lit 0) (.lit 1) (.lit 1)), (.int .i64 (.lit 0))] 134 true)), (4149515568918747324801345236359483890394910906576961256423338985694838218971224722493012881799418522972494699516276181793542753445678620883032333404160798972678053422806923982405632, (.cells [] 3 true)), ((nFa + 6), (.row .i64 (.gl 0 (.app 23 (.var 0) (.var 0) (.var 11) (.lit 0) (.lit 0) (.lit 0) .nil) (.lit 0) (.lit 0)) (.var (nFa + 4)) 3))], [((.lt (.var (nFa + 4)) (.len (.gl 0 (.app 23 (.var 0) (.var 0) (.var 11) (.lit 0) (.lit 0) (.lit 0) .nil) (.lit 0) (.lit 0)))), false)]⟩]
def starte : Mt := ⟨[((nFa + 6), 4149515568918732582760623277213576696822328921151606112199821733974414874415364388023628537467965061539974474286715472932702789524409481154186122760439578029575508763838003476955136)], [(0, (.var 11)), (4, (.lit 0))], [(9, .nil)], [], [((.lit 0), (.len (.var (nFa + 9))))], [], [], []⟩
def pcEe : PC := [((.lt (.var 11) (.lit 1)), false), ((.lt (.lit 20) (.var 11)), false)]
def sumse : List SumT := [
  ⟨.normal, 0, ⟨[((nFa + 6), 5260135901548373507240989942417378047854826771559201887739061097795310694511565463251357902679074989379389053399174956006064672697247080962071537959657508479963375788689324718058814739838159232476151897573556224)], [(0, (.sub (.var (nFa + 0)) (.lit 1))), (4, (.var 5260135901548373507240989942417378047854826771559201887739061097795310694511565463251357902679074989379389053399174956006064672697247080962071537959657508479963375788689324718058814739838159232476151897573556224))], [(9, (.app (.var (nFa + 9)) (.cons (.var (nFa + 0)) .nil)))], [], [((.add (.len (.var (nFa + 9))) (.lit 1)), (.len (.var (nFa + 9))))], [], [], []⟩, [((.lt (.var 5260135901548373507240989942417378047854826771559201887739061097795310694511565463251357902679074989379389053399174956006064672697247080962071537959657508479963375788689324718058814739838159232476151897573556224) (.add (.len (.var (nFa + 9))) (.lit 1))), false), ((.lt (.var (nFa + 0)) (.lit 1)), false), ((.lt (.var (nFa + 0)) (.lit 0)), false), ((.lt (.lit 20) (.var (nFa + 0))), false), ((.lt (.lit 20) (.len (.var (nFa + 9)))), false), ((.lt (.var 11) (.lit 1)), false), ((.lt (.lit 20) (.var 11)), false)]⟩,
  ⟨.exit 0, 0, ⟨[((nFa + 6), (nFa + 6))], [(4, (.var (nFa + 4)))], [], [], [((.len (.var (nFa + 9))), (.len (.gl 0 (.app 23 (.var 0) (.var 0) (.var 11) (.lit 0) (.lit 0) (.lit 0) .nil) (.lit 0) (.lit 0))))], [((.var (nFa + 9)), (.gl 0 (.app 23 (.var 0) (.var 0) (.var 11) (.lit 0) (.lit 0) (.lit 0) .nil) (.lit 0) (.lit 0)))], [], []⟩, [((.lt (.var (nFa + 4)) (.len (.var (nFa + 9)))), false), ((.lt (.var (nFa + 0)) (.lit 1)), true), ((.lt (.var (nFa + 0)) (.lit 0)), false), ((.lt (.lit 20) (.var (nFa + 0))), false), ((.lt (.lit 20) (.len (.var (nFa + 9)))), false), ((.lt (.var 11) (.lit 1)), false), ((.lt (.lit 20) (.var 11)), false)]⟩]
theorem bFe : (codeX Try.prog (oAa Try.prog) LO7 SZ7 fAa 6000 0 (loopAt Try.prog fAa 12) (hdAt headse 0).fr ([] ++ (hdAt headse 0).pc) (hdAt headse 0).hp).bind (fun ls => sumsHd Try.prog nFa LO7 SZ7 headse tge (ls.map withRows)) = some sumse := by kernel_rfl
theorem stFe : mAll nFa 0 0 Try.prog (hdAt ente 0).fr (hdAt ente 0).hp (hdAt headse 0).fr (hdAt headse 0).hp = some starte := by kernel_rfl
theorem hFepc : (hdAt headse 0).pc = [(.lt (.var nFa) (.lit 0), false), (.lt (.lit 20) (.var nFa), false), (.lt (.lit 20) (.len (.var (nFa + 9))), false)] ++ pcEe := by kernel_rfl
theorem avFe : pav nFa (nFa + 64) pcEe = true := by kernel_rfl
structure FeA (ν : Env Gh) : Prop where
  n1 : 1 ≤ ν.i 11
  n2 : ν.i 11 ≤ 20
theorem feA {ν : Env Gh} (hI : ν.I = inM) (h : pcDen ν pcEe) : FeA ν := by
  have h1 := lt_den (pcAt h 0 rfl)
  have h2 := lt_den (pcAt h 1 rfl)
  simp only [SI.den, Bool.false_eq_true, iff_false] at h1 h2
  exact ⟨by omega, by omega⟩
attribute [local irreducible] nmAt
def oFeL (P : Program) : Orac := (oAa P).withLoop fAa 12 nFa (hdAt ente 0).fr (hdAt ente 0).hp (mkM nFa tge (pcEe.map fun x => (x.1, !x.2)))
theorem oFeL_ok : OOK Try.prog (oFeL Try.prog) inM := by
  have hp : ∀ {ν : Env Gh} {x : Vals Gh}, ν.I = inM → pcDen ν pcEe → JF ν x → pcDen (ν.at nFa x) (hdAt headse 0).pc := by
    intro ν x hI h J
    have F := feA hI h
    have F2 := F.n2
    have rf : RF nFa ν x (ν.at nFa x) := RF.self rfl
    have r0 : (ν.at nFa x).i nFa = x.i 0 := rf.i 0 (by decide)
    have j0 := J.i0
    have j1 := J.i1
    have hl : (x.l 9).length = (ν.i 11 - x.i 0).toNat := by rw [J.list, fG_length]
    rw [hFepc]
    refine pcDen_append (pcDen_cons (lt_of ?_) (pcDen_cons (lt_of ?_) (pcDen_one (lt_of ?_)))) (pcDen_agree (at_agree (ρ := fun _ => 0) (ρ' := fun _ => 0) (fun _ _ => rfl)) avFe h)
    · simp only [SI.den, r0, Bool.false_eq_true, iff_false]; omega
    · simp only [SI.den, r0, Bool.false_eq_true, iff_false]; omega
    · simp only [SI.den, SL.den, rf.l 9 (by decide), Bool.false_eq_true, iff_false]; omega
  have h1 : ∀ {i : Nat} {h : Tgt} {ss : List (PC × List SumT)}, headse[i]? = some h → [[(([] : PC), sumse)]][i]? = some ss → h = hdAt headse 0 ∧ ss = [([], sumse)] := by
    intro i h ss hi hs
    have hlt : i < 1 := (List.getElem?_eq_some_iff.1 hs).1
    obtain rfl : i = 0 := by omega
    exact ⟨by unfold hdAt; rw [hi]; rfl, by cases hs; rfl⟩
  refine loopC_ok (n := 6000) (it := 0) pr oAa_ok (rfl : nFa = nmAt 12) (by decide +kernel) oneFa (heads := headse) (sums := [[([], sumse)]]) (start := starte) (h0 := hdAt headse 0) (ghL []) rfl ?_ rfl stFe (fun _ => JF) (fun _ _ x => (x.i 0).toNat) ?_ ?_ ?_ oAa_ok
  · intro i h ss hi hs c hc
    obtain ⟨rfl, rfl⟩ := h1 hi hs
    simp only [List.mem_singleton] at hc
    subst hc
    exact bFe
  · intro ν hI h
    have hq := bads_of h
    have F := feA hI hq
    have F1 := F.n1
    generalize hy : Mt.vals starte (ghL []) ν = y
    have y0 : y.i 0 = ν.i 11 := by rw [← hy]; simp only [starte, Mt.vals, lkp_cons, lkp_nil, Nat.reduceEqDiff, reduceIte, SI.den]
    have y4 : y.i 4 = 0 := by rw [← hy]; simp only [starte, Mt.vals, lkp_cons, lkp_nil, Nat.reduceEqDiff, reduceIte, SI.den]
    have y9 : y.l 9 = [] := by rw [← hy]; simp only [starte, Mt.vals, lkp_cons, lkp_nil, Nat.reduceEqDiff, reduceIte, SL.den]
    have J : JF ν y := ⟨by omega, by omega, by rw [y9, y0, fG_self], by rw [y9]; simp [y4]⟩
    refine ⟨J, hp hI hq J, ?_⟩
    have rf : RF nFa ν y (ν.at nFa y) := RF.self rfl
    constructor <;> simp [starte, SI.den, SL.den, rf.l 9 (by decide), y9]
  · intro i h ss hi hs ν x hI hb hJ hpc
    obtain ⟨rfl, rfl⟩ := h1 hi hs
    exact ⟨_, List.mem_singleton.2 rfl, pcDen_nil _⟩
  · intro i h ss hi hs c hc t ht ν x ν2 hI hb J hpc hq rf h2
    obtain ⟨rfl, rfl⟩ := h1 hi hs
    simp only [List.mem_singleton] at hc
    subst hc
    have hq := bads_of hb
    have F := feA hI hq
    have F2 := F.n2
    have j0 := J.i0
    have j1 := J.i1
    have hl : (x.l 9).length = (ν.i 11 - x.i 0).toNat := by rw [J.list, fG_length]
    have q0 : ν2.i (nFa + 0) = x.i 0 := rf.i 0 (by decide)
    have q4 : ν2.i (nFa + 4) = x.i 4 := rf.i 4 (by decide)
    have q9 : ν2.l (nFa + 9) = x.l 9 := rf.l 9 (by decide)
    simp only [sumse, List.mem_cons, List.not_mem_nil, or_false] at ht
    rcases ht with rfl | rfl
    · have c1 := lt_den (pcAt h2 0 rfl)
      have c2 := lt_den (pcAt h2 1 rfl)
      simp only [SI.den, SL.den, q0, q9, Bool.false_eq_true, iff_false] at c1 c2
      intro g hg
      have e : g = hdAt headse 0 := by unfold hdAt; rw [hg]; rfl
      subst e
      generalize hy : Mt.vals _ (ghL []) ν2 = y
      have y0 : y.i 0 = x.i 0 - 1 := by rw [← hy]; simp only [Mt.vals, lkp_cons, lkp_nil, Nat.reduceEqDiff, reduceIte, SI.den, q0]
      have y9 : y.l 9 = x.l 9 ++ [x.i 0] := by rw [← hy]; simp only [Mt.vals, lkp_cons, lkp_nil, Nat.reduceEqDiff, reduceIte, SL.den, SI.den, q0, q9]
      have y4 : ((y.l 9).length : Int) ≤ y.i 4 := by
        rw [y9, ← hy]
        simp only [Mt.vals, lkp_cons, lkp_nil, Nat.reduceEqDiff, reduceIte, SI.den, List.length_append, List.length_cons, List.length_nil]
        omega
      have J' : JF ν y := ⟨by omega, by omega, by rw [y9, y0, J.list, fG_step j1], y4⟩
      refine ⟨J', hp hI hq J', by show (y.i 0).toNat < (x.i 0).toNat; omega, ?_⟩
      have rf3 : RF nFa ν y (ν.at nFa y) := RF.self rfl
      constructor
      · intro z hz
        simp only [List.mem_cons, List.not_mem_nil, or_false] at hz
        subst hz
        simp only [SI.den, SL.den, q9, rf3.l 9 (by decide), y9, List.length_append, List.length_cons, List.length_nil]
        omega
      · simp
      · simp
      · simp
    · have c1 := lt_den (pcAt h2 1 rfl)
      simp only [SI.den, q0, iff_true] at c1
      have e0 : x.i 0 = 0 := by omega
      generalize hy : Mt.vals _ (ghL []) ν2 = y
      have rf3 : RF nFa ν y (ν.at nFa y) := RF.self rfl
      have y4 : y.i 4 = x.i 4 := by rw [← hy]; simp only [Mt.vals, lkp_cons, lkp_nil, Nat.reduceEqDiff, reduceIte, SI.den, q4]
      have e : downX.den (ν.at nFa y) = x.l 9 := by
        rw [downX_den (rf3.I.trans hI), rf3.io 11 (by decide), J.list, e0]
      unfold downX at e
      refine ⟨fun g hg => ?_, ?_⟩
      · cases hg
        refine pcDen_one (lt_of ?_)
        simp only [SI.den, e, rf3.i 4 (by decide), y4, Bool.false_eq_true, iff_false]
        have := J.cap
        omega
      · constructor
        · intro z hz
          simp only [List.mem_cons, List.not_mem_nil, or_false] at hz
          subst hz
          simp only [SI.den]
          rw [e]
          simp only [SL.den, q9]
        · intro z hz
          simp only [List.mem_cons, List.not_mem_nil, or_false] at hz
          subst hz
          simp only
          rw [e]
          simp only [SL.den, q9]
        · simp
        · simp
end Go.Proofs.Ytoogepoalbhlhaa
end
