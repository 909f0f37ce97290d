/- Each function of this translation has the small code that was printed for it. -/
import Derived.Test.YteobailpkkljpaaGreatDoorRows
import Derived.Test.YteobailpkkljpaaGreatDoorW
import Derived.Test.YteobailpkkljpaaGreatDoorA
import Derived.Shelf.Spec.TrailingZeros
import Derived.Test.YteobailpkkljpaaGreatDoorChecked
set_option linter.unusedSimpArgs false
set_option linter.unusedVariables false
set_option maxRecDepth 10000
namespace Go.Jq
open Go.Proofs
set_option maxRecDepth 100000
def enNames:Names:=[(361,3),(270,8),(22,9),(353,10),(347,11),(343,12),(354,13),(355,14),(23,15),(40,20),(274,28),(275,29),(31,30),(37,31),(33,32),(38,33),(39,34),(36,35),(357,36),(358,37),(41,38),(30,41),(59,47),(80,48),(81,49),(63,50),(82,51),(83,52),(84,53),(79,67),(280,71),(281,72),(282,73),(60,74),(61,75),(62,76),(64,77),(65,78),(66,79),(53,80),(67,81),(68,82),(69,83),(70,84),(78,85),(85,86),(86,87),(87,88),(52,90),(56,93),(57,94),(58,95),(104,98),(105,99),(106,100),(107,101),(108,102),(109,103),(110,104),(147,105),(148,106),(100,107),(149,108),(101,109),(150,110),(151,111),(152,112),(102,113),(142,129),(143,130),(144,131),(145,132),(146,133),(111,134),(112,135),(113,136),(114,137),(115,138),(116,139),(117,140),(118,141),(119,142),(120,143),(99,144),(121,145),(122,146),(98,147),(123,148),(124,149),(140,150),(141,151),(153,152),(154,153),(103,157),(171,162),(172,163),(173,164),(199,165),(200,166),(201,167),(197,174),(198,175),(174,176),(175,177),(176,178),(177,179),(178,180),(179,181),(180,182),(181,183),(170,184),(187,185),(188,186),(189,187),(190,188),(191,189),(192,190),(193,191),(194,192),(195,193),(196,194),(231,203),(237,209),(229,215),(230,216),(222,217),(223,218),(224,219),(225,220),(226,221),(227,222),(228,223),(249,233),(250,234),(251,235)]
noncomputable abbrev enZ (f:Func) (l:List (List Nat)):=cFunc Tryz.prog enNames.ψ f l
def enG:Nat→SFunc
 | 361=>c361
 | 270=>c270
 | 22=>c22
 | 353=>c353
 | 347=>c347
 | 343=>c343
 | 354=>c354
 | 355=>c355
 | 23=>c23
 | 40=>c40
 | 274=>c274
 | 275=>c275
 | 31=>c31
 | 37=>c37
 | 33=>c33
 | 38=>c38
 | 39=>c39
 | 36=>c36
 | 357=>c357
 | 358=>c358
 | 41=>c41
 | 30=>c30
 | 59=>c59
 | 80=>c80
 | 81=>c81
 | 63=>c63
 | 82=>c82
 | 83=>c83
 | 84=>c84
 | 79=>c79
 | 280=>c280
 | 281=>c281
 | 282=>c282
 | 60=>c60
 | 61=>c61
 | 62=>c62
 | 64=>c64
 | 65=>c65
 | 66=>c66
 | 53=>c53
 | 67=>c67
 | 68=>c68
 | 69=>c69
 | 70=>c70
 | 78=>c78
 | 85=>c85
 | 86=>c86
 | 87=>c87
 | 52=>c52
 | 56=>c56
 | 57=>c57
 | 58=>c58
 | 104=>c104
 | 105=>c105
 | 106=>c106
 | 107=>c107
 | 108=>c108
 | 109=>c109
 | 110=>c110
 | 147=>c147
 | 148=>c148
 | 100=>c100
 | 149=>c149
 | 101=>c101
 | 150=>c150
 | 151=>c151
 | 152=>c152
 | 102=>c102
 | 142=>c142
 | 143=>c143
 | 144=>c144
 | 145=>c145
 | 146=>c146
 | 111=>c111
 | 112=>c112
 | 113=>c113
 | 114=>c114
 | 115=>c115
 | 116=>c116
 | 117=>c117
 | 118=>c118
 | 119=>c119
 | 120=>c120
 | 99=>c99
 | 121=>c121
 | 122=>c122
 | 98=>c98
 | 123=>c123
 | 124=>c124
 | 140=>c140
 | 141=>c141
 | 153=>c153
 | 154=>c154
 | 103=>c103
 | 171=>c171
 | 172=>c172
 | 173=>c173
 | 199=>c199
 | 200=>c200
 | 201=>c201
 | 197=>c197
 | 198=>c198
 | 174=>c174
 | 175=>c175
 | 176=>c176
 | 177=>c177
 | 178=>c178
 | 179=>c179
 | 180=>c180
 | 181=>c181
 | 170=>c170
 | 187=>c187
 | 188=>c188
 | 189=>c189
 | 190=>c190
 | 191=>c191
 | 192=>c192
 | 193=>c193
 | 194=>c194
 | 195=>c195
 | 196=>c196
 | 231=>c231
 | 237=>c237
 | 229=>c229
 | 230=>c230
 | 222=>c222
 | 223=>c223
 | 224=>c224
 | 225=>c225
 | 226=>c226
 | 227=>c227
 | 228=>c228
 | 249=>c249
 | 250=>c250
 | 251=>c251
 | _=>⟨0,0,.skip,[]⟩
theorem en_c361:enZ Tryz.f3 [[0],[3],[3,4,5],[3,4,5,6],[3,4,5,6],[3,4,5,6,21],[3,4,5,6,7],[3,4,5,6,7,43],[2],[3,4,5,6,7,8],[3,4,5,6,7,8,9],[3,4,5,6,7,8,9],[3,4,5,6,7,8,9,51],[3,4,5,6,7,8,9,10],[3,4,5,6,7,8,9,10,74],[2],[3,4,5,6,7,8,9,10,76],[3,4,5,6,7,8,9,10,113],[2],[3,4,5,6,7,8,9],[3,4,5,6,7,8,9],[3,4,5,6,119],[2],[3,4,5,6],[2]]=some c361:=by kernel_rfl
theorem en_c270:enZ Tryz.f8 [[0,1,4],[4]]=some c270:=by kernel_rfl
theorem en_c22:enZ Tryz.f9 [[2,3],[2,3],[2,3,6],[3,6],[6,16],[4,5],[6],[4,5]]=some c22:=by kernel_rfl
theorem en_c353:enZ Tryz.f10 [[0,2],[0,2,3],[0,2,3,9],[2],[0,2,3],[0,2,3,4],[0,2,3,4],[0,2,3,4,17],[0,2,3,4,5],[0,2,3,4,5],[0,2,3,4,5,23],[0,2,3,4,5,73],[0,2,3,4,5],[0,2,3,4,5],[0,2,3,4],[2]]=some c353:=by kernel_rfl
theorem en_c347:enZ Tryz.f11 [[1],[2]]=some c347:=by kernel_rfl
theorem en_c343:enZ Tryz.f12 [[1],[2]]=some c343:=by kernel_rfl
theorem en_c354:enZ Tryz.f13 [[]]=some c354:=by kernel_rfl
theorem en_c355:enZ Tryz.f14 [[1],[1,3],[1,3,4],[1,3,4],[1,3,4,10],[1,3,4,15],[2],[1,3,4],[2]]=some c355:=by kernel_rfl
theorem en_c23:enZ Tryz.f15 [[],[1],[1,2,3],[0]]=some c23:=by kernel_rfl
theorem en_c40:enZ Tryz.f20 [[2,3],[2,3,38],[4],[3,5],[3,5,48],[4],[5,50,51,52],[5,50,51,52],[5,50,51,52,53],[5,6,7,50,51,52],[5,6,7,50,51,52,71],[4],[5,6,8,50,51,52],[5,50,51,52,81],[4],[5,50,51,52],[4]]=some c40:=by kernel_rfl
theorem en_c274:enZ Tryz.f28 [[1,2],[1,2,3],[1,2,3,4],[1,2,3,4],[1,2,3,4,18],[1,2,3,4,5],[1,2,3,4,5,6],[1,2,3,4,5,6],[1,2,3,4,5,6,25],[1,2,3,4,5,6,40],[1,2,3,4,5,6],[1,2,3,4,5,6],[1,2,3,4],[1,2,3,4],[1,2,3,7],[1,2,3,7],[1,2,3,7,57],[1,2,3,7,8],[1,2,3,7,8,9],[1,2,3,7,8,9],[1,2,3,7,8,9,67],[1,2,3,7,8,9,10],[1,2,3,7,8,9,10,80],[1,2,3,7,8,9,10],[1,2,3,7,8,9],[1,2,3,7,8,9],[1,2,3,7],[1,2,3,7],[2]]=some c274:=by kernel_rfl
theorem en_c275:enZ Tryz.f29 [[1,2,4],[1,2,4,5],[1,2,4,5,6],[1,4,5,7],[1,4,5,7,8],[1,4,5,7,8,9],[1,4,5,7,8,9,32],[1,4,5,7,8,9],[1,4,5,7,8,9,10],[1,4,5,7,8,9,10,11],[1,4,5,7,8,9,10,11],[1,4,5,7,8,9,10,11,44],[1,4,5,7,8,9,10,11,12],[1,4,5,7,8,9,10,11,12,13],[1,4,5,7,8,9,10,11,12,13],[1,4,5,7,8,9,10,11,12,13,57],[1,4,5,7,8,9,10,11,12,13,14],[1,4,5,7,8,9,10,11,12,13,14,15],[1,4,5,7,8,9,10,11,12,13,14,15,16],[1,4,5,7,8,9,10,11,12,13,14,15,16,74],[1,4,5,7,8,9,10,11,12,13,14,15,16],[1,4,5,7,8,9,10,11,12,13,14,15,16,17],[1,4,5,7,8,9,10,11,12,13,15,16,17,83],[1,4,5,7,8,9,10,11,12,13,15,16,17,83,95],[1,4,5,7,8,9,10,11,12,13,15,16,17,83,95],[1,4,5,7,8,9,10,11,12,13,15,16,17,83,95],[1,4,5,7,8,9,10,11,12,13,15,16,17,83,95],[1,4,5,7,8,9,10,11,12,13],[1,4,5,7,8,9,10,11,12,13],[1,4,5,7,8,9,10,11,12,13,15,16,17,83,108],[1,4,5,7,8,9,10,11,12,13,15,16,17,83,108],[1,4,5,7,8,9,10,11,12,13,15,16,17,83,108],[1,4,5,7,8,9,10,11,12,13,15,16,17,83,108],[1,4,5,7,8,9,10,11,12,13],[1,4,5,7,8,9,10,11,12,13],[1,4,5,7,8,9,10,11,12,13,15,16,17,83,121],[1,4,5,7,8,9,10,11,12,13],[1,4,5,7,8,9,10,11,12,13,15,16,17,83,127],[1,4,5,7,8,9,10,11,12,13],[1,4,5,7,8,9,10,11,12,13],[1,4,5,7,8,9,10,11,12,13,15,16,17,139],[1,4,5,7,8,9,10,11,12,13],[1,4,5,7,8,9,10,11,12,13],[1,4,5,7,8,9,10,11,12,13],[1,4,5,7,8,9,10,11,12,13],[1,4,5,7,8,9,10,11],[1,4,5,7,8,9,10,11],[4,5,18],[4,5,18,158],[4,5],[4]]=some c275:=by kernel_rfl
theorem en_c31:enZ Tryz.f30 [[1,2,3],[1,2,3,12],[3,6],[3,6,23,24,25],[3,6,23,24,25],[3,6,23,24,25,26],[3,6,7,8,23,24,25],[3,6,23,24,25],[3,6,23,24,25],[3,6,48,49],[3,6,48,49],[3,6,48,49,50],[3,6,9,48,49],[3,6,9,48,49],[3,6,48,49],[3,6,48,49],[]]=some c31:=by kernel_rfl
theorem en_c37:enZ Tryz.f31 [[0,1,2,3,4],[7]]=some c37:=by kernel_rfl
theorem en_c33:enZ Tryz.f32 [[5,6,7,8,9],[6,7,8,9,11],[6,7,9,11,12],[6,7,9,11,13],[10]]=some c33:=by kernel_rfl
theorem en_c38:enZ Tryz.f33 [[0,2],[2]]=some c38:=by kernel_rfl
theorem en_c39:enZ Tryz.f34 [[1,2,3],[1,2],[4]]=some c39:=by kernel_rfl
theorem en_c36:enZ Tryz.f35 [[]]=some c36:=by kernel_rfl
theorem en_c357:enZ Tryz.f36 [[1,2],[1,2,3],[1,2,3],[1,2,3,8],[1,2,3,4],[1,2,3,4],[1,2,3,4,14],[1,2,3,4,19],[1,2,3,4],[1,2,3,4],[1,2,3],[2]]=some c357:=by kernel_rfl
theorem en_c358:enZ Tryz.f37 [[0,1,2],[6]]=some c358:=by kernel_rfl
theorem en_c41:enZ Tryz.f38 [[1],[1,3],[1,3,16,17,18],[1,3,16,17,18],[1,3,16,17,18,19],[1,3,4,5,16,17,18],[1,3,4,5,6,16,17,18],[1,3,4,5,6,16,17,18,27],[1,3,5,6,16,17,18],[1,3,5,6,7,16,17,18],[1,3,5,6,7,16,17,18,41,42,43],[1,3,5,6,7,16,17,18,41,42,43],[1,3,5,6,7,16,17,18,41,42,43,44],[1,3,5,6,7,9,16,17,18,41,42,43],[1,3,5,6,7,16,17,18,41,42,43],[1,3,5,6,7,16,17,18,41,42,43],[1,3,16,17,18],[1,3,16,17,18],[3,72,73,74],[3,72,73,74],[3,72,73,74,75],[3,11,72,73,74],[3,11,12,72,73,74],[3,12,72,73,74,78,79,80],[3,12,72,73,74,78,79,80],[3,12,72,73,74,78,79,80,81],[3,12,14,72,73,74,78,79,80],[3,12,72,73,74,78,79,80],[3,12,72,73,74,78,79,80],[3,72,73,74],[3,72,73,74],[2]]=some c41:=by kernel_rfl
theorem en_c30:enZ Tryz.f41 [[1],[3],[3,8,9],[3,8,9],[3,8,9,10],[3,4,8,9],[3,8,9,17],[2],[3,8,9],[2]]=some c30:=by kernel_rfl
theorem en_c59:enZ Tryz.f47 [[1],[1,37],[2],[1,39,40,41],[1,39,40,41],[1,39,40,41,42],[1,3,4,39,40,41],[1,39,40,41,63],[2],[1,39,40,41],[1,5],[5,67,68,69],[5,67,68,69],[5,67,68,69,70],[5,7,67,68,69],[5,67,68,69,85],[2],[5,67,68,69],[2]]=some c59:=by kernel_rfl
theorem en_c80:enZ Tryz.f48 [[1,2],[1,2,5],[1,2,5,27],[4],[1,2],[1,2,34,35],[1,2,34,35],[1,2,34,35,36],[1,2,6,34,35],[1,2,6,7,34,35],[1,2,6,7,8,34,35],[1,2,6,7,8,34,35],[1,2,6,7,8,34,35,50],[1,2,6,7,8,34,35,55],[1,2,6,7,8,34,35],[1,2,6,7,8,34,35],[1,2,7,9,11,34,35],[1,2,7,34,35,82],[4],[1,2,34,35],[1,2,34,35],[4]]=some c80:=by kernel_rfl
theorem en_c81:enZ Tryz.f49 [[1],[1,3],[1,3,12,13,14],[1,3,12,13,14],[1,3,12,13,14,15],[1,3,4,5,12,13,14],[1,3,4,5,6,12,13,14],[1,3,4,5,6,12,13,14,26],[1,3,12,13,14,28],[2],[1,3,4,5,6,12,13,14,42],[2],[1,3,4,5,6,7,12,13,14],[1,3,4,6,12,13,14,64],[2],[1,3,12,13,14],[1,3,12,13,14],[2]]=some c81:=by kernel_rfl
theorem en_c63:enZ Tryz.f50 [[1,2],[1,5],[5,12,13,14],[5,12,13,14],[5,12,13,14,15],[5,6,7,12,13,14],[5,6,7,12,13,14,20],[5,12,13,14],[5,12,13,14],[4]]=some c63:=by kernel_rfl
theorem en_c82:enZ Tryz.f51 [[0],[3],[3],[2]]=some c82:=by kernel_rfl
theorem en_c83:enZ Tryz.f52 [[1],[2]]=some c83:=by kernel_rfl
theorem en_c84:enZ Tryz.f53 [[0,1],[0,1,10],[4],[0,1,12,13],[0,1,12,13],[0,1,12,13,14],[0,1,5,12,13],[0,1,12,13,24],[4],[0,1,12,13],[4]]=some c84:=by kernel_rfl
theorem en_c79:enZ Tryz.f67 [[2,3],[4]]=some c79:=by kernel_rfl
theorem en_c280:enZ Tryz.f71 [[1],[1,3],[1,3,4],[1,3,4],[1,3,4,15],[1,3,4],[1,3,4],[1,3,5],[1,3,5],[1,3,5,30],[1,3,5,6],[1,3,5,6],[1,3,5,6,40],[1,3,5,6],[1,3,5,6],[1,3,5],[1,3,7],[1,3,7],[1,3,7,59],[1,3,7,8],[1,3,7,8],[1,3,7,8,70],[1,3,7,8],[1,3,7,8],[1,3,7],[3,9],[3,9,10],[3,9,10],[3,9,10,86],[3,9,10,91],[3,9,10],[3,9,10],[2]]=some c280:=by kernel_rfl
theorem en_c281:enZ Tryz.f72 [[1,2],[1,2,5],[1,2,5],[1,2,5,10],[1,2,5,20],[4],[1,2,5],[4]]=some c281:=by kernel_rfl
theorem en_c282:enZ Tryz.f73 [[0,1],[0,1],[0,1,8],[2],[2]]=some c282:=by kernel_rfl
theorem en_c60:enZ Tryz.f74 [[1,2,4],[4]]=some c60:=by kernel_rfl
theorem en_c61:enZ Tryz.f75 [[0,1,4],[0,1,4],[0,1,4,5,6],[0,1,4,5,6],[0,1,4,5,32],[0,1,4,5,7,8],[0,1,4,5,7,42],[],[0,1,4],[0,1,4]]=some c61:=by kernel_rfl
theorem en_c62:enZ Tryz.f76 [[0],[0,3],[0,3,4],[0,3,4],[0,3,4,21,22,23],[0,3,4,21,22,23],[0,3,4,21,22,23,24],[0,3,4,5,6,21,22,23],[0,3,4,5,6,21,22,23,30],[0,3,4,5,6,21,22,23],[0,3,4,5,6,7,21,22,23],[0,3,4,5,6,7,21,22,23],[0,3,4,5,6,7,21,22,23,39],[0,3,4,5,6,7,21,22,23,53],[0,3,4,5,6,7,8,21,22,23],[0,3,4,5,6,7,8,21,22,23],[0,3,4,5,6,7,8,21,22,23],[0,3,4,5,6,7,8,21,22,23,77],[0,3,4,5,6,7,21,22,23,79],[2],[0,3,4,5,6,7,21,22,23],[0,3,4,5,21,22,23,86],[2],[0,3,4,21,22,23],[0,3,4,21,22,23],[2]]=some c62:=by kernel_rfl
theorem en_c64:enZ Tryz.f77 [[1,2],[1,2,3],[1,2,3,10,11],[1,2,3,10,11],[1,2,3,10,11,12],[1,2,3,4,10,11],[1,2,3,4,5,10,11],[1,2,3,4,5,10,11],[1,2,3,4,5,10,11,19],[1,2,3,4,5,10,11],[1,2,3,4,5,10,11],[1,2,3,10,11],[2]]=some c64:=by kernel_rfl
theorem en_c65:enZ Tryz.f78 [[0,1,2,3],[6]]=some c65:=by kernel_rfl
theorem en_c66:enZ Tryz.f79 [[3,4,5],[3,4,5,7],[3,4,5,7,8],[3,8],[6]]=some c66:=by kernel_rfl
theorem en_c53:enZ Tryz.f80 [[1,2],[1,2,8],[4],[4]]=some c53:=by kernel_rfl
theorem en_c67:enZ Tryz.f81 [[3,4,5],[3,4,5,7],[3,4,5,7,8],[8],[6]]=some c67:=by kernel_rfl
theorem en_c68:enZ Tryz.f82 [[0,1,2,3],[5]]=some c68:=by kernel_rfl
theorem en_c69:enZ Tryz.f83 [[0],[0,4],[2],[2]]=some c69:=by kernel_rfl
theorem en_c70:enZ Tryz.f84 [[0],[0,4],[2],[2]]=some c70:=by kernel_rfl
theorem en_c78:enZ Tryz.f85 [[0,1,4],[]]=some c78:=by kernel_rfl
theorem en_c85:enZ Tryz.f86 [[0],[2]]=some c85:=by kernel_rfl
theorem en_c52:enZ Tryz.f90 [[0,2],[0,2,10],[2],[0,2,3],[0,2,3,15,16,17],[0,2,3,15,16,17],[0,2,3,15,16,17,18],[0,2,3,4,5,15,16,17],[0,2,3,4,5,15,16,17,22,23,24],[0,2,3,4,5,15,16,17,22,23,24],[0,2,3,4,5,15,16,17,22,23,24,25],[0,2,3,4,5,6,7,15,16,17,22,23,24],[0,2,3,4,5,6,15,16,17,22,23,24,55],[0,2,3,4,5,15,16,17,22,23,24],[0,2,3,4,5,15,16,17,22,23,24],[0,2,3,15,16,17],[2]]=some c52:=by kernel_rfl
theorem en_c56:enZ Tryz.f93 [[1,2,3,6],[1,2,3,6,14],[3,6],[6]]=some c56:=by kernel_rfl
theorem en_c57:enZ Tryz.f94 [[1,2],[1,2,6,7],[1,2,6,7],[1,2,6,7,8],[1,2,3,6,7],[1,2,3,6,7,11,12],[1,2,3,6,7,11,12],[1,2,3,6,7,11,12,13],[1,2,3,4,6,7,11,12],[1,2,3,4,6,7,11,12,20],[1,2,3,6,7,11,12],[1,2,3,6,7,11,12],[1,2,6,7],[2]]=some c57:=by kernel_rfl
theorem en_c58:enZ Tryz.f95 [[0,1],[4]]=some c58:=by kernel_rfl
theorem en_c104:enZ Tryz.f98 [[1],[1,3],[3,7,8,9],[3,7,8,9],[3,7,8,9,10],[3,5,7,8,9],[3,7,8,9],[3,7,8,9],[2]]=some c104:=by kernel_rfl
theorem en_c105:enZ Tryz.f99 [[0],[2]]=some c105:=by kernel_rfl
theorem en_c106:enZ Tryz.f100 [[0,1],[3]]=some c106:=by kernel_rfl
theorem en_c107:enZ Tryz.f101 [[0],[0,5,6,7],[0,5,6,7],[0,5,6,7,8],[0,3,4,5,6,7],[0,5,6,7,29],[2],[0,5,6,7],[2]]=some c107:=by kernel_rfl
theorem en_c108:enZ Tryz.f102 [[0,1],[4]]=some c108:=by kernel_rfl
theorem en_c109:enZ Tryz.f103 [[1,2],[3]]=some c109:=by kernel_rfl
theorem en_c110:enZ Tryz.f104 [[1,2],[1,2,5],[1,2,5,6],[1,2,5,6,11],[1,2,5,6,11,12],[1,2,5],[2,5,6],[1,2,5,6,11,29],[1,2,5],[2,5,6],[1,2,5,6,11,46],[1,2,5,11,48],[1,2,5],[2,5,6],[2,5,11,81],[2,5],[2,5,6],[2,5,129],[2,5],[2,5,6],[4],[4]]=some c110:=by kernel_rfl
theorem en_c147:enZ Tryz.f105 [[1],[1,3],[3,7,8,9],[3,7,8,9],[3,7,8,9,10],[3,4,5,7,8,9],[3,7,8,9],[3,7,8,9],[2]]=some c147:=by kernel_rfl
theorem en_c148:enZ Tryz.f106 [[0,1],[4]]=some c148:=by kernel_rfl
theorem en_c100:enZ Tryz.f107 [[1],[2]]=some c100:=by kernel_rfl
theorem en_c149:enZ Tryz.f108 [[1,2,3,6,7],[1,2,3,6,7],[1,2,3,6,7],[1,2,3,6,7,9,10],[1,2,3,6,7,9,25],[6,7,8],[1,2,3,6,7,9,11],[1,2,3,6,7,9,11,30],[1,2,3,6,7,9,11],[1,2,3,6,7,11,12,13],[1,2,3,6,7,11,12,41],[1,2,3,6,7,11,12,44],[6,7,8],[1,2,3,6,7,11,12],[1,2,3,6,7,11,12],[1,2,3,6,7,11],[1,2,3,6,7]]=some c149:=by kernel_rfl
theorem en_c101:enZ Tryz.f109 [[1],[2]]=some c101:=by kernel_rfl
theorem en_c150:enZ Tryz.f110 [[0],[2]]=some c150:=by kernel_rfl
theorem en_c151:enZ Tryz.f111 [[0,2],[]]=some c151:=by kernel_rfl
theorem en_c152:enZ Tryz.f112 [[0,5,6,7],[0,5,6,7],[0,5,6,7,8],[0,4,5,6,7],[0,5,6,7,14],[0,5,6,7]]=some c152:=by kernel_rfl
theorem en_c102:enZ Tryz.f113 [[0,1],[4]]=some c102:=by kernel_rfl
theorem en_c142:enZ Tryz.f129 [[0],[0,3],[3,6,7,8],[3,6,7,8],[3,6,7,8,9],[3,5,6,7,8],[3,5,6,7,8,14],[2],[3,6,7,8],[2]]=some c142:=by kernel_rfl
theorem en_c143:enZ Tryz.f130 [[0,1,2],[0,1,2,11,12,13],[0,1,2,11,12,13],[0,1,2,11,12,13,14],[0,1,2,7,8,11,12,13],[0,1,2,7,8,11,12,13,21],[6],[0,1,2,8,9,11,12,13],[0,1,2,10,11,12,13],[0,1,2,10,11,12,13,31],[6],[0,1,2,11,12,13],[38],[6],[6]]=some c143:=by kernel_rfl
theorem en_c144:enZ Tryz.f131 [[2,3],[4]]=some c144:=by kernel_rfl
theorem en_c145:enZ Tryz.f132 [[0,1],[0,1,9,10,11],[0,1,9,10,11],[0,1,9,10,11,12],[0,1,5,6,9,10,11],[0,1,5,6,9,10,11,19],[4],[0,1,6,7,9,10,11],[0,1,8,9,10,11],[0,1,8,9,10,11,28],[4],[0,1,9,10,11],[35],[4],[4]]=some c145:=by kernel_rfl
theorem en_c146:enZ Tryz.f133 [[0,1,2],[0,1,2,11,12,13],[0,1,2,11,12,13],[0,1,2,11,12,13,14],[0,1,2,7,8,11,12,13],[0,1,2,7,8,11,12,13,21],[6],[0,1,2,8,9,11,12,13],[0,1,2,10,11,12,13],[0,1,2,10,11,12,13,31],[6],[0,1,2,11,12,13],[38],[6],[6]]=some c146:=by kernel_rfl
theorem en_c111:enZ Tryz.f134 [[0,3,4],[0,3,4],[0,3,4,19],[0,3,4,5],[0,3,4,5,6,7],[0,3,4,5,6,7,34],[0,3,4,5,6,7,34,36],[0,3,4,5,6,8,9],[0,3,4,5,6,8,46],[0,3,4,5,6],[0,3,4],[0,3,4,5,6,7,52],[0,3,4,5,56],[0,3,4],[4],[0,3,4],[4]]=some c111:=by kernel_rfl
theorem en_c112:enZ Tryz.f135 [[1,2],[1,2,13],[4],[4]]=some c112:=by kernel_rfl
theorem en_c113:enZ Tryz.f136 [[1,3,5,6],[5,6,8],[5,6,8,22],[6,7],[6,9],[6,9,36],[6,7],[6,7]]=some c113:=by kernel_rfl
theorem en_c114:enZ Tryz.f137 [[2,3,4,6],[2,3,4,6,9],[2,3,4,6,9,10],[6,7],[2,3,4,6,9,19],[6,7],[2,3,4,6,25],[2,3,4,6,32],[6,7],[6,7],[6,7]]=some c114:=by kernel_rfl
theorem en_c115:enZ Tryz.f138 [[0,1,3,6],[0,1,3,6,8],[0,1,3,6,8],[0,1,3,6,8],[0,1,6],[0,1,6,46],[]]=some c115:=by kernel_rfl
theorem en_c116:enZ Tryz.f139 [[1,3,4,6,8],[1,3,4,6,8,9,10],[1,3,4,6,8,9,19],[8],[1,3,4,6,8,9,28],[1,4,6,8],[1,4,6,8],[8]]=some c116:=by kernel_rfl
theorem en_c117:enZ Tryz.f140 [[0],[0,4],[2],[2]]=some c117:=by kernel_rfl
theorem en_c118:enZ Tryz.f141 [[0,1,2,6],[0,1,2,6,7],[0,1,2,6,7,8],[0,1,6,7],[0,1,6],[0,1],[]]=some c118:=by kernel_rfl
theorem en_c119:enZ Tryz.f142 [[0],[0,4],[0,4,5],[0,4,5,6],[0,4,5,6,33,34,35],[0,4,5,6,33,34,35],[0,4,5,6,33,34,35,36],[0,4,5,6,7,8,33,34,35],[0,4,5,6,8,33,34,35],[0,4,5,6,33,34,35],[0,4,5,6,33,34,35],[0,4,5,6,53,54,55],[0,4,5,6,53,54,55],[0,4,5,6,53,54,55,56],[0,4,5,6,10,53,54,55],[0,4,5,6,53,54,55,60,61,62],[0,4,5,6,53,54,55,60,61,62],[0,4,5,6,53,54,55,60,61,62,63],[0,4,5,6,12,53,54,55,60,61,62],[0,4,5,6,12,13,53,54,55,60,61,62],[0,4,5,6,12,13,53,54,55,60,61,62,67],[0,4,5,6,12,13,53,54,55,60,61,62],[0,4,5,6,13,14,53,54,55,60,61,62],[0,4,5,6,13,14,53,54,55,60,61,62,85],[0,4,5,6,13,53,54,55,60,61,62],[0,4,5,6,53,54,55,60,61,62],[0,4,5,6,53,54,55,60,61,62],[0,4,5,6,53,54,55],[2,3]]=some c119:=by kernel_rfl
theorem en_c120:enZ Tryz.f143 [[0,1,5],[0,1,5,12,13,14],[0,1,5,12,13,14],[0,1,5,12,13,14,15],[0,1,5,7,8,12,13,14],[0,1,5,7,8,12,13,14,26],[0,1,5,12,13,14,40],[6],[0,1,5,12,13,14],[6]]=some c120:=by kernel_rfl
theorem en_c99:enZ Tryz.f144 [[0],[0,4],[2],[2]]=some c99:=by kernel_rfl
theorem en_c121:enZ Tryz.f145 [[0,1,2,3,4,5],[0,1,2,3,4,5,15],[7],[0,1,2,4,5,19,20,21],[0,1,2,4,5,19,20,21],[0,1,2,4,5,19,20,21,22],[0,1,2,4,5,9,19,20,21],[0,1,2,4,5,9,19,20,21,38],[0,1,2,4,5,9,19,20,21],[0,1,2,4,5,10,19,20,21],[0,1,2,4,5,10,19,20,21],[0,1,2,4,5,19,20,21,54],[7],[0,1,2,4,5,19,20,21],[7]]=some c121:=by kernel_rfl
theorem en_c122:enZ Tryz.f146 [[0],[0,3],[3,6,7,8],[3,6,7,8],[3,6,7,8,9],[3,5,6,7,8],[3,6,7,8],[3,6,7,8],[2]]=some c122:=by kernel_rfl
theorem en_c98:enZ Tryz.f147 [[1,2],[4]]=some c98:=by kernel_rfl
theorem en_c123:enZ Tryz.f148 [[1,2,3,4,5,6],[1,2,3,4,5,6,13],[2,3,8],[3,8,16,17,18],[3,8,16,17,18],[3,8,16,17,18,19],[3,8,9,10,16,17,18],[3,8,16,17,18],[3,8,16,17,18],[7],[7]]=some c123:=by kernel_rfl
theorem en_c124:enZ Tryz.f149 [[0,1,2,3],[2,3],[5]]=some c124:=by kernel_rfl
theorem en_c140:enZ Tryz.f150 [[0,1,2,3,4,10],[0,1,2,3,4,10,11],[0,1,2,3,4,10,11],[0,1,2,3,4,10,11,12],[0,1,2,3,4,10,11,12,25],[],[0,1,2,3,4,10,11,12,32],[],[0,1,2,3,4,10,11,12,39],[0,1,2,3,4,10,11,12],[0,1,2,3,4,10,11,12],[0,1,2,3,4,10,11,12,13,14],[0,1,2,3,4,10,11,12,13,14,56],[0,1,2,3,4,10,11,12,13],[0,1,2,3,4,10,11,12,13],[0,1,2,3,4,10,11,12,13,14],[0,1,2,3,4,10,11,12,13,75],[0,1,2,3,4,10,11,12,13,80],[0,1,2,3,4,10,11,12,13,97],[0,2,3,4,10,11,15],[0,1,2,3,4,10,11],[0,1,2,3,4,12,16,17],[0,1,2,3,4,11,12,16],[0,1,2,3,4,11,12,16,18,19],[0,1,2,3,4,11,16,18,19,20],[0,1,2,3,4,11,16,18,19,20,125],[0,1,2,3,4,10,11,16],[0,2,3,4,10,11,16],[0,1,2,3,4,10,11],[0,1,2,3,4,10,11,16],[0,1,3,4,10,11,16],[0,1,2,3,4,10,11]]=some c140:=by kernel_rfl
theorem en_c141:enZ Tryz.f151 [[0],[2],[2]]=some c141:=by kernel_rfl
theorem en_c153:enZ Tryz.f152 [[0],[2]]=some c153:=by kernel_rfl
theorem en_c103:enZ Tryz.f157 [[0],[0,8],[2],[2]]=some c103:=by kernel_rfl
theorem en_c171:enZ Tryz.f162 [[0,1],[0,1,7,8],[0,1,7,8],[0,1,7,8,9],[0,1,5,7,8],[0,1,5,7,8,16],[4],[0,1,7,8],[4]]=some c171:=by kernel_rfl
theorem en_c172:enZ Tryz.f163 [[1],[2]]=some c172:=by kernel_rfl
theorem en_c173:enZ Tryz.f164 [[0],[2]]=some c173:=by kernel_rfl
theorem en_c199:enZ Tryz.f165 [[0,1],[0,1,10],[4],[0,1,12,13],[0,1,12,13],[0,1,12,13,14],[0,1,5,12,13],[0,1,12,13,24],[4],[0,1,12,13],[4]]=some c199:=by kernel_rfl
theorem en_c201:enZ Tryz.f167 [[0,1,2,3,8],[0,1,2,3,8,9],[0,1,2,3,8,9],[0,1,2,3,8,9,10],[0,1,2,3,8,9,10,23],[],[0,1,2,3,8,9,10,29],[],[0,1,2,3,8,9,10,35],[0,1,2,3,8,9,10],[0,1,2,3,8,9,10],[0,1,2,3,8,9,10,11,12],[0,1,2,3,8,9,10,11,12,50],[0,1,2,3,8,9,10,11],[0,1,2,3,8,9,10,11],[0,1,2,3,8,9,10,11,12],[0,1,2,3,8,9,10,11,68],[0,1,2,3,8,9,10,11,72],[0,1,2,3,8,9,10,11,87],[0,2,3,8,9,13],[0,1,2,3,8,9],[0,1,2,3,10,14,15],[0,1,2,3,9,10,14],[0,1,2,3,9,10,14,16,17],[0,1,2,3,9,14,16,17,18],[0,1,2,3,9,14,16,17,18,113],[0,1,2,3,8,9,14],[0,2,3,8,9,14],[0,1,2,3,8,9],[0,1,2,3,8,9,14],[0,1,3,8,9,14],[0,1,2,3,8,9]]=some c201:=by kernel_rfl
theorem en_c197:enZ Tryz.f174 [[0,1],[0,1,5],[0,1,5,6],[0,1,6,11],[12],[4],[4],[0,1,13],[4],[0,1,16],[4],[19],[4],[4]]=some c197:=by kernel_rfl
theorem en_c198:enZ Tryz.f175 [[0,1],[0,1,5],[0,1,5,6],[0,1,6,11],[12],[4],[4],[0,1,13],[4],[0,1,16],[4],[19],[4],[4]]=some c198:=by kernel_rfl
theorem en_c174:enZ Tryz.f176 [[2,3],[2,3,12],[4],[4]]=some c174:=by kernel_rfl
theorem en_c175:enZ Tryz.f177 [[0,1,2],[0,1,2,8],[1,2,8,12],[1,2,8,12,13],[6,7],[1,2,8,12,18],[6,7],[1,2,8,12,23],[6,7],[1,2,8,12,28],[6,7],[1,2,8,12,33],[6,7],[1,2,8,12,38],[6,7],[1,2,8,12,43],[6,7],[1,2,8,12,48],[6,7],[1,2,12,53],[6,7],[1,2,12,59],[6,7],[1,2,65],[6,7],[6,7]]=some c175:=by kernel_rfl
theorem en_c176:enZ Tryz.f178 [[0,1,2,11],[]]=some c176:=by kernel_rfl
theorem en_c177:enZ Tryz.f179 [[0],[2]]=some c177:=by kernel_rfl
theorem en_c178:enZ Tryz.f180 [[0],[2]]=some c178:=by kernel_rfl
theorem en_c179:enZ Tryz.f181 [[0],[2]]=some c179:=by kernel_rfl
theorem en_c180:enZ Tryz.f182 [[0,1],[0,1,10],[0,1],[0,5,6],[0,6,26],[0,6],[0,7],[7,8],[7,8],[7,8,37],[7,8],[4]]=some c180:=by kernel_rfl
theorem en_c181:enZ Tryz.f183 [[1,2],[3]]=some c181:=by kernel_rfl
theorem en_c187:enZ Tryz.f185 [[0,1,2,3,8],[0,1,2,3,8],[0,1,2,3,8,14],[0,1,2,3,8,9],[0,1,2,3,8,9],[0,1,2,3,8,9,34],[0,1,2,3,8,9],[0,1,2,3,8,9],[0,1,2,3,8]]=some c187:=by kernel_rfl
theorem en_c188:enZ Tryz.f186 [[0,1,2,3,8],[0,1,2,3,8,9],[0,3,8,9,10],[0,3,8,9,10,11],[0,3,8,9,10,11],[0,3,8,9,10,11,21],[0,3,8,9,10,11],[0,3,8,9,10,11],[0,3,8,9,12],[0,3,8,9,12],[0,3,8,9,12,33],[0,3,8,9,12],[0,3,8,9,12],[0,3,8,9,12]]=some c188:=by kernel_rfl
theorem en_c189:enZ Tryz.f187 [[0,1,8],[0,1,8,17],[0,1,8,9],[0,1,8,9,10],[0,1,8,9,10,11],[0,1,8,9,10,11],[0,1,8,9,10,11,35],[0,1,8,9,10,11,12],[0,1,8,9,10,11,12,45],[0,1,8,9,10,11,12],[0,1,8,9,10,11],[0,1,8,9,10,11]]=some c189:=by kernel_rfl
theorem en_c190:enZ Tryz.f188 [[0,1,2,3],[0,1,3,10],[0,1,3,10,11],[0,1,3,10,11,12],[0,1,3,10,11,12,13],[0,3,10,11,12,13,14],[0,3,10,11,12,13,14,34],[0,3,11,12,13,14,36],[0,3,11,12,13,14],[0,3,11,12,13,14],[0,3,11,12,13,14],[11,13],[13,55],[13,55,57],[8,9],[13,60],[8,9],[8,9]]=some c190:=by kernel_rfl
theorem en_c191:enZ Tryz.f189 [[0,2,8],[0,8,9],[0,8,9],[0,8,9,15],[0,8,9],[0,8,9],[0,8,9]]=some c191:=by kernel_rfl
theorem en_c192:enZ Tryz.f190 [[0,1,2,3],[0,1,2,3,9],[0,1,2,3,9,10],[0,1,2,3,9,10],[0,1,2,3,9,10,16],[0,1,2,3,9,10],[0,1,2,3,9,10,36],[0,1,2,3,9,10],[0,1,2,3,9,10,41],[8],[0,1,2,3,9,10,45],[8],[0,1,2,3,9,10],[0,1,2,3,9,10,65],[0,1,2,3,9,10,11],[0,1,2,3,9,10,11],[0,1,2,3,9,10,11,69],[0,1,2,3,9,10,11,84],[0,1,2,3,9,10,11],[0,1,2,3,9,10,11],[0,1,2,3,9,10,104],[0,1,2,3,9,10,12],[0,1,2,3,9,10,12],[0,1,2,3,9,10,12,109],[0,1,2,3,9,10,12,124],[0,1,2,3,9,10,12],[0,1,2,3,9,10,12],[0,1,2,3,9,10],[8]]=some c192:=by kernel_rfl
theorem en_c193:enZ Tryz.f191 [[0,1,2,3,4],[0,1,2,4],[0,1,4,11,12],[0,1,4,11,12],[0,1,4,11,12],[0,1,4,11,12,47],[0,1,4,11,12],[0,1,4,11,12],[0,1,4,11,12,65],[0,1,4,11,12],[0,1,4,11,12,70],[0,1,4,11,12],[0,1,4,11,12],[0,1,4,11,12],[10]]=some c193:=by kernel_rfl
theorem en_c194:enZ Tryz.f192 [[0,1,2,3,4],[0,1,2,4],[0,1,4,12,13],[0,1,4,12,13],[0,1,4,12,13,47],[0,1,4,12,13],[0,1,4,12,13],[0,1,4,12,13,66],[0,1,4,12,13],[0,1,4,12,13,71],[13],[10,11],[0,1,4,12,13],[0,1,4,12,13],[0,1,4,12,13],[0,1,4,12,13],[0,1,4,12,13],[0,1,4,12,13,120],[0,1,4,12,13],[0,1,4,12,13],[0,1,4,12,13,139],[0,1,4,12,13],[0,1,4,12,13,144],[0,1,4,12,13],[0,1,4,12,13],[0,1,4,12,13],[13],[10,11]]=some c194:=by kernel_rfl
theorem en_c195:enZ Tryz.f193 [[0,2],[0,2,4],[0],[0,2],[0,2,8],[0,2],[0,2],[2]]=some c195:=by kernel_rfl
theorem en_c196:enZ Tryz.f194 [[0,2],[0,2,4],[0],[0,2],[0,2,8],[0,2],[0,2],[0,2,14],[0,2],[0,2],[2]]=some c196:=by kernel_rfl
theorem en_c231:enZ Tryz.f203 [[0,1,2,6],[0,1,2,6],[0,1,2,6,12],[0,1,2,6,7],[0,1,2,6,7],[0,1,2,6,7,30],[0,1,2,6,7],[0,1,2,6,7],[0,1,2,6]]=some c231:=by kernel_rfl
theorem en_c237:enZ Tryz.f209 [[0,1],[4]]=some c237:=by kernel_rfl
theorem en_c229:enZ Tryz.f215 [[0],[2]]=some c229:=by kernel_rfl
theorem en_c230:enZ Tryz.f216 [[0],[2]]=some c230:=by kernel_rfl
theorem en_c222:enZ Tryz.f217 [[0],[3],[2],[2]]=some c222:=by kernel_rfl
theorem en_c223:enZ Tryz.f218 [[0,1],[6,7],[4,5],[8,9],[4,5]]=some c223:=by kernel_rfl
theorem en_c224:enZ Tryz.f219 [[0,2,3,4,10],[0,2,3,4,10],[0,2,3,4,10,11],[0,2,3,4,10,11,18],[0,2,3,4,10,11,40],[0,2,3,4,10,11],[0,2,3,4,10,11,58],[0,2,3,4,11],[0,2,3,4,10]]=some c224:=by kernel_rfl
theorem en_c225:enZ Tryz.f220 [[0],[2]]=some c225:=by kernel_rfl
theorem en_c226:enZ Tryz.f221 [[0],[0],[0],[0],[2]]=some c226:=by kernel_rfl
theorem en_c227:enZ Tryz.f222 [[0,1,2,3],[8]]=some c227:=by kernel_rfl
theorem en_c228:enZ Tryz.f223 [[0,1,2,3,4,5],[0,1,2,3,4,5],[0,1,2,4,5],[2],[12]]=some c228:=by kernel_rfl
theorem en_c249:enZ Tryz.f233 [[0,1],[6],[4,5]]=some c249:=by kernel_rfl
theorem en_c250:enZ Tryz.f234 [[0,1],[0,1,6],[0,1,6,7],[0,1,6,7,8],[0,1,6,7,8,9],[0,1,6,7,8,9,10],[0,1,6,7,9,11],[0,1,6,7,9,11,12],[0,1,6,7,9,12,13],[0,1,7,9,12,13],[0,1,4],[4,5]]=some c250:=by kernel_rfl
theorem en_c251:enZ Tryz.f235 [[0,1,2,3,4],[1,2,3,22],[1,2],[10,11],[10,11]]=some c251:=by kernel_rfl
theorem enKnown:Known Tryz.prog enNames enG where
 ok:=by kernel_rfl
 calls:=by
  intro x hx
  simp only[enNames,List.mem_cons,List.not_mem_nil,or_false]at hx
  rcases hx with rfl|rfl|rfl|rfl|rfl|rfl|rfl|rfl|rfl|rfl|rfl|rfl|rfl|rfl|rfl|rfl|rfl|rfl|rfl|rfl|rfl|rfl|rfl|rfl|rfl|rfl|rfl|rfl|rfl|rfl|rfl|rfl|rfl|rfl|rfl|rfl|rfl|rfl|rfl|rfl|rfl|rfl|rfl|rfl|rfl|rfl|rfl|rfl|rfl|rfl|rfl|rfl|rfl|rfl|rfl|rfl|rfl|rfl|rfl|rfl|rfl|rfl|rfl|rfl|rfl|rfl|rfl|rfl|rfl|rfl|rfl|rfl|rfl|rfl|rfl|rfl|rfl|rfl|rfl|rfl|rfl|rfl|rfl|rfl|rfl|rfl|rfl|rfl|rfl|rfl|rfl|rfl|rfl|rfl|rfl|rfl|rfl|rfl|rfl|rfl|rfl|rfl|rfl|rfl|rfl|rfl|rfl|rfl|rfl|rfl|rfl|rfl|rfl|rfl|rfl|rfl|rfl|rfl|rfl|rfl|rfl|rfl|rfl|rfl|rfl|rfl|rfl|rfl|rfl|rfl|rfl|rfl|rfl|rfl|rfl
  ·exact Tryz.call3
  ·exact Tryz.call8
  ·exact Tryz.call9
  ·exact Tryz.call10
  ·exact Tryz.call11
  ·exact Tryz.call12
  ·exact Tryz.call13
  ·exact Tryz.call14
  ·exact Tryz.call15
  ·exact Tryz.call20
  ·exact Tryz.call28
  ·exact Tryz.call29
  ·exact Tryz.call30
  ·exact Tryz.call31
  ·exact Tryz.call32
  ·exact Tryz.call33
  ·exact Tryz.call34
  ·exact Tryz.call35
  ·exact Tryz.call36
  ·exact Tryz.call37
  ·exact Tryz.call38
  ·exact Tryz.call41
  ·exact Tryz.call47
  ·exact Tryz.call48
  ·exact Tryz.call49
  ·exact Tryz.call50
  ·exact Tryz.call51
  ·exact Tryz.call52
  ·exact Tryz.call53
  ·exact Tryz.call67
  ·exact Tryz.call71
  ·exact Tryz.call72
  ·exact Tryz.call73
  ·exact Tryz.call74
  ·exact Tryz.call75
  ·exact Tryz.call76
  ·exact Tryz.call77
  ·exact Tryz.call78
  ·exact Tryz.call79
  ·exact Tryz.call80
  ·exact Tryz.call81
  ·exact Tryz.call82
  ·exact Tryz.call83
  ·exact Tryz.call84
  ·exact Tryz.call85
  ·exact Tryz.call86
  ·exact Tryz.call87
  ·exact Tryz.call88
  ·exact Tryz.call90
  ·exact Tryz.call93
  ·exact Tryz.call94
  ·exact Tryz.call95
  ·exact Tryz.call98
  ·exact Tryz.call99
  ·exact Tryz.call100
  ·exact Tryz.call101
  ·exact Tryz.call102
  ·exact Tryz.call103
  ·exact Tryz.call104
  ·exact Tryz.call105
  ·exact Tryz.call106
  ·exact Tryz.call107
  ·exact Tryz.call108
  ·exact Tryz.call109
  ·exact Tryz.call110
  ·exact Tryz.call111
  ·exact Tryz.call112
  ·exact Tryz.call113
  ·exact Tryz.call129
  ·exact Tryz.call130
  ·exact Tryz.call131
  ·exact Tryz.call132
  ·exact Tryz.call133
  ·exact Tryz.call134
  ·exact Tryz.call135
  ·exact Tryz.call136
  ·exact Tryz.call137
  ·exact Tryz.call138
  ·exact Tryz.call139
  ·exact Tryz.call140
  ·exact Tryz.call141
  ·exact Tryz.call142
  ·exact Tryz.call143
  ·exact Tryz.call144
  ·exact Tryz.call145
  ·exact Tryz.call146
  ·exact Tryz.call147
  ·exact Tryz.call148
  ·exact Tryz.call149
  ·exact Tryz.call150
  ·exact Tryz.call151
  ·exact Tryz.call152
  ·exact Tryz.call153
  ·exact Tryz.call157
  ·exact Tryz.call162
  ·exact Tryz.call163
  ·exact Tryz.call164
  ·exact Tryz.call165
  ·exact Tryz.call166
  ·exact Tryz.call167
  ·exact Tryz.call174
  ·exact Tryz.call175
  ·exact Tryz.call176
  ·exact Tryz.call177
  ·exact Tryz.call178
  ·exact Tryz.call179
  ·exact Tryz.call180
  ·exact Tryz.call181
  ·exact Tryz.call182
  ·exact Tryz.call183
  ·exact Tryz.call184
  ·exact Tryz.call185
  ·exact Tryz.call186
  ·exact Tryz.call187
  ·exact Tryz.call188
  ·exact Tryz.call189
  ·exact Tryz.call190
  ·exact Tryz.call191
  ·exact Tryz.call192
  ·exact Tryz.call193
  ·exact Tryz.call194
  ·exact Tryz.call203
  ·exact Tryz.call209
  ·exact Tryz.call215
  ·exact Tryz.call216
  ·exact Tryz.call217
  ·exact Tryz.call218
  ·exact Tryz.call219
  ·exact Tryz.call220
  ·exact Tryz.call221
  ·exact Tryz.call222
  ·exact Tryz.call223
  ·exact Tryz.call233
  ·exact Tryz.call234
  ·exact Tryz.call235
 code:=by
  intro x hx
  simp only[enNames,List.mem_cons,List.not_mem_nil,or_false]at hx
  rcases hx with rfl|rfl|rfl|rfl|rfl|rfl|rfl|rfl|rfl|rfl|rfl|rfl|rfl|rfl|rfl|rfl|rfl|rfl|rfl|rfl|rfl|rfl|rfl|rfl|rfl|rfl|rfl|rfl|rfl|rfl|rfl|rfl|rfl|rfl|rfl|rfl|rfl|rfl|rfl|rfl|rfl|rfl|rfl|rfl|rfl|rfl|rfl|rfl|rfl|rfl|rfl|rfl|rfl|rfl|rfl|rfl|rfl|rfl|rfl|rfl|rfl|rfl|rfl|rfl|rfl|rfl|rfl|rfl|rfl|rfl|rfl|rfl|rfl|rfl|rfl|rfl|rfl|rfl|rfl|rfl|rfl|rfl|rfl|rfl|rfl|rfl|rfl|rfl|rfl|rfl|rfl|rfl|rfl|rfl|rfl|rfl|rfl|rfl|rfl|rfl|rfl|rfl|rfl|rfl|rfl|rfl|rfl|rfl|rfl|rfl|rfl|rfl|rfl|rfl|rfl|rfl|rfl|rfl|rfl|rfl|rfl|rfl|rfl|rfl|rfl|rfl|rfl|rfl|rfl|rfl|rfl|rfl|rfl|rfl|rfl
  ·exact .inl ⟨_,_,Tryz.func3,en_c361⟩
  ·exact .inl ⟨_,_,Tryz.func8,en_c270⟩
  ·exact .inl ⟨_,_,Tryz.func9,en_c22⟩
  ·exact .inl ⟨_,_,Tryz.func10,en_c353⟩
  ·exact .inl ⟨_,_,Tryz.func11,en_c347⟩
  ·exact .inl ⟨_,_,Tryz.func12,en_c343⟩
  ·exact .inl ⟨_,_,Tryz.func13,en_c354⟩
  ·exact .inl ⟨_,_,Tryz.func14,en_c355⟩
  ·exact .inl ⟨_,_,Tryz.func15,en_c23⟩
  ·exact .inl ⟨_,_,Tryz.func20,en_c40⟩
  ·exact .inl ⟨_,_,Tryz.func28,en_c274⟩
  ·exact .inl ⟨_,_,Tryz.func29,en_c275⟩
  ·exact .inl ⟨_,_,Tryz.func30,en_c31⟩
  ·exact .inl ⟨_,_,Tryz.func31,en_c37⟩
  ·exact .inl ⟨_,_,Tryz.func32,en_c33⟩
  ·exact .inl ⟨_,_,Tryz.func33,en_c38⟩
  ·exact .inl ⟨_,_,Tryz.func34,en_c39⟩
  ·exact .inl ⟨_,_,Tryz.func35,en_c36⟩
  ·exact .inl ⟨_,_,Tryz.func36,en_c357⟩
  ·exact .inl ⟨_,_,Tryz.func37,en_c358⟩
  ·exact .inl ⟨_,_,Tryz.func38,en_c41⟩
  ·exact .inl ⟨_,_,Tryz.func41,en_c30⟩
  ·exact .inl ⟨_,_,Tryz.func47,en_c59⟩
  ·exact .inl ⟨_,_,Tryz.func48,en_c80⟩
  ·exact .inl ⟨_,_,Tryz.func49,en_c81⟩
  ·exact .inl ⟨_,_,Tryz.func50,en_c63⟩
  ·exact .inl ⟨_,_,Tryz.func51,en_c82⟩
  ·exact .inl ⟨_,_,Tryz.func52,en_c83⟩
  ·exact .inl ⟨_,_,Tryz.func53,en_c84⟩
  ·exact .inl ⟨_,_,Tryz.func67,en_c79⟩
  ·exact .inl ⟨_,_,Tryz.func71,en_c280⟩
  ·exact .inl ⟨_,_,Tryz.func72,en_c281⟩
  ·exact .inl ⟨_,_,Tryz.func73,en_c282⟩
  ·exact .inl ⟨_,_,Tryz.func74,en_c60⟩
  ·exact .inl ⟨_,_,Tryz.func75,en_c61⟩
  ·exact .inl ⟨_,_,Tryz.func76,en_c62⟩
  ·exact .inl ⟨_,_,Tryz.func77,en_c64⟩
  ·exact .inl ⟨_,_,Tryz.func78,en_c65⟩
  ·exact .inl ⟨_,_,Tryz.func79,en_c66⟩
  ·exact .inl ⟨_,_,Tryz.func80,en_c53⟩
  ·exact .inl ⟨_,_,Tryz.func81,en_c67⟩
  ·exact .inl ⟨_,_,Tryz.func82,en_c68⟩
  ·exact .inl ⟨_,_,Tryz.func83,en_c69⟩
  ·exact .inl ⟨_,_,Tryz.func84,en_c70⟩
  ·exact .inl ⟨_,_,Tryz.func85,en_c78⟩
  ·exact .inl ⟨_,_,Tryz.func86,en_c85⟩
  ·exact .inr ⟨3,rfl⟩
  ·exact .inr ⟨2,rfl⟩
  ·exact .inl ⟨_,_,Tryz.func90,en_c52⟩
  ·exact .inl ⟨_,_,Tryz.func93,en_c56⟩
  ·exact .inl ⟨_,_,Tryz.func94,en_c57⟩
  ·exact .inl ⟨_,_,Tryz.func95,en_c58⟩
  ·exact .inl ⟨_,_,Tryz.func98,en_c104⟩
  ·exact .inl ⟨_,_,Tryz.func99,en_c105⟩
  ·exact .inl ⟨_,_,Tryz.func100,en_c106⟩
  ·exact .inl ⟨_,_,Tryz.func101,en_c107⟩
  ·exact .inl ⟨_,_,Tryz.func102,en_c108⟩
  ·exact .inl ⟨_,_,Tryz.func103,en_c109⟩
  ·exact .inl ⟨_,_,Tryz.func104,en_c110⟩
  ·exact .inl ⟨_,_,Tryz.func105,en_c147⟩
  ·exact .inl ⟨_,_,Tryz.func106,en_c148⟩
  ·exact .inl ⟨_,_,Tryz.func107,en_c100⟩
  ·exact .inl ⟨_,_,Tryz.func108,en_c149⟩
  ·exact .inl ⟨_,_,Tryz.func109,en_c101⟩
  ·exact .inl ⟨_,_,Tryz.func110,en_c150⟩
  ·exact .inl ⟨_,_,Tryz.func111,en_c151⟩
  ·exact .inl ⟨_,_,Tryz.func112,en_c152⟩
  ·exact .inl ⟨_,_,Tryz.func113,en_c102⟩
  ·exact .inl ⟨_,_,Tryz.func129,en_c142⟩
  ·exact .inl ⟨_,_,Tryz.func130,en_c143⟩
  ·exact .inl ⟨_,_,Tryz.func131,en_c144⟩
  ·exact .inl ⟨_,_,Tryz.func132,en_c145⟩
  ·exact .inl ⟨_,_,Tryz.func133,en_c146⟩
  ·exact .inl ⟨_,_,Tryz.func134,en_c111⟩
  ·exact .inl ⟨_,_,Tryz.func135,en_c112⟩
  ·exact .inl ⟨_,_,Tryz.func136,en_c113⟩
  ·exact .inl ⟨_,_,Tryz.func137,en_c114⟩
  ·exact .inl ⟨_,_,Tryz.func138,en_c115⟩
  ·exact .inl ⟨_,_,Tryz.func139,en_c116⟩
  ·exact .inl ⟨_,_,Tryz.func140,en_c117⟩
  ·exact .inl ⟨_,_,Tryz.func141,en_c118⟩
  ·exact .inl ⟨_,_,Tryz.func142,en_c119⟩
  ·exact .inl ⟨_,_,Tryz.func143,en_c120⟩
  ·exact .inl ⟨_,_,Tryz.func144,en_c99⟩
  ·exact .inl ⟨_,_,Tryz.func145,en_c121⟩
  ·exact .inl ⟨_,_,Tryz.func146,en_c122⟩
  ·exact .inl ⟨_,_,Tryz.func147,en_c98⟩
  ·exact .inl ⟨_,_,Tryz.func148,en_c123⟩
  ·exact .inl ⟨_,_,Tryz.func149,en_c124⟩
  ·exact .inl ⟨_,_,Tryz.func150,en_c140⟩
  ·exact .inl ⟨_,_,Tryz.func151,en_c141⟩
  ·exact .inl ⟨_,_,Tryz.func152,en_c153⟩
  ·exact .inr ⟨3,rfl⟩
  ·exact .inl ⟨_,_,Tryz.func157,en_c103⟩
  ·exact .inl ⟨_,_,Tryz.func162,en_c171⟩
  ·exact .inl ⟨_,_,Tryz.func163,en_c172⟩
  ·exact .inl ⟨_,_,Tryz.func164,en_c173⟩
  ·exact .inl ⟨_,_,Tryz.func165,en_c199⟩
  ·exact .inr ⟨4,rfl⟩
  ·exact .inl ⟨_,_,Tryz.func167,en_c201⟩
  ·exact .inl ⟨_,_,Tryz.func174,en_c197⟩
  ·exact .inl ⟨_,_,Tryz.func175,en_c198⟩
  ·exact .inl ⟨_,_,Tryz.func176,en_c174⟩
  ·exact .inl ⟨_,_,Tryz.func177,en_c175⟩
  ·exact .inl ⟨_,_,Tryz.func178,en_c176⟩
  ·exact .inl ⟨_,_,Tryz.func179,en_c177⟩
  ·exact .inl ⟨_,_,Tryz.func180,en_c178⟩
  ·exact .inl ⟨_,_,Tryz.func181,en_c179⟩
  ·exact .inl ⟨_,_,Tryz.func182,en_c180⟩
  ·exact .inl ⟨_,_,Tryz.func183,en_c181⟩
  ·exact .inr ⟨0,rfl⟩
  ·exact .inl ⟨_,_,Tryz.func185,en_c187⟩
  ·exact .inl ⟨_,_,Tryz.func186,en_c188⟩
  ·exact .inl ⟨_,_,Tryz.func187,en_c189⟩
  ·exact .inl ⟨_,_,Tryz.func188,en_c190⟩
  ·exact .inl ⟨_,_,Tryz.func189,en_c191⟩
  ·exact .inl ⟨_,_,Tryz.func190,en_c192⟩
  ·exact .inl ⟨_,_,Tryz.func191,en_c193⟩
  ·exact .inl ⟨_,_,Tryz.func192,en_c194⟩
  ·exact .inl ⟨_,_,Tryz.func193,en_c195⟩
  ·exact .inl ⟨_,_,Tryz.func194,en_c196⟩
  ·exact .inl ⟨_,_,Tryz.func203,en_c231⟩
  ·exact .inl ⟨_,_,Tryz.func209,en_c237⟩
  ·exact .inl ⟨_,_,Tryz.func215,en_c229⟩
  ·exact .inl ⟨_,_,Tryz.func216,en_c230⟩
  ·exact .inl ⟨_,_,Tryz.func217,en_c222⟩
  ·exact .inl ⟨_,_,Tryz.func218,en_c223⟩
  ·exact .inl ⟨_,_,Tryz.func219,en_c224⟩
  ·exact .inl ⟨_,_,Tryz.func220,en_c225⟩
  ·exact .inl ⟨_,_,Tryz.func221,en_c226⟩
  ·exact .inl ⟨_,_,Tryz.func222,en_c227⟩
  ·exact .inl ⟨_,_,Tryz.func223,en_c228⟩
  ·exact .inl ⟨_,_,Tryz.func233,en_c249⟩
  ·exact .inl ⟨_,_,Tryz.func234,en_c250⟩
  ·exact .inl ⟨_,_,Tryz.func235,en_c251⟩
end Go.Jq
namespace Go.Jq
theorem enRun:∀x∈A11n_list,enG x.1=x.2:=by
 intro x hx
 simp only[A11n_list,List.mem_cons,List.not_mem_nil,or_false]at hx
 repeat' rcases hx with rfl|hx
 all_goals first|rfl|(subst hx;rfl)
theorem enAll:AllXG enG:=by repeat' (first|rfl|constructor)
theorem enComp:CompG enG:=by repeat' (first|rfl|constructor)
theorem enDoc:DocG enG:=by repeat' (first|rfl|constructor)
theorem enLaw:NowG enG:=⟨enAll,enComp,enDoc,rfl,fun _ _ k=>aw11n_spec enRun k⟩
end Go.Jq
namespace Go.Proofs
open Go.Shelf
def Tryz.tzRen:Ren:=⟨fun _=>184,fun x=>match x with|0=>0|3=>3|4=>4|5=>5|22=>36|25=>55|54=>247|_=>0,fun _=>0⟩
theorem Tryz.tzLays:Lays7.n29 Tryz.prog Tryz.tzRen where
 mixed:=by kernel_rfl
 f29:=by kernel_rfl
 t0:=by kernel_rfl
 a0:=fun _=>by kernel_rfl
 z0:=fun _=>by kernel_rfl
 v0:=fun _=>by kernel_rfl
 i0:=by kernel_rfl
 t3:=by kernel_rfl
 a3:=fun _=>by kernel_rfl
 z3:=fun _=>by kernel_rfl
 v3:=fun _=>by kernel_rfl
 i3:=by kernel_rfl
 t4:=by kernel_rfl
 a4:=fun _=>by kernel_rfl
 z4:=fun _=>by kernel_rfl
 v4:=fun _=>by kernel_rfl
 i4:=by kernel_rfl
 t5:=by kernel_rfl
 a5:=fun _=>by kernel_rfl
 z5:=fun _=>by kernel_rfl
 v5:=fun _=>by kernel_rfl
 i5:=by kernel_rfl
 t22:=by kernel_rfl
 a22:=fun _=>by kernel_rfl
 z22:=fun _=>by kernel_rfl
 v22:=fun _=>by kernel_rfl
 i22:=by kernel_rfl
 t25:=by kernel_rfl
 a25:=fun _=>by kernel_rfl
 z25:=fun _=>by kernel_rfl
 v25:=fun _=>by kernel_rfl
 i25:=by kernel_rfl
 t54:=by kernel_rfl
 a54:=fun _=>by kernel_rfl
 z54:=fun _=>by kernel_rfl
 g1:=by kernel_rfl
end Go.Proofs
